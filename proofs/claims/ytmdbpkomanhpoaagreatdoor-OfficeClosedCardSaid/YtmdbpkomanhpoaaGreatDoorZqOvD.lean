/- The set-up of the examples: its last region. -/
import Derived.Test.YtmdbpkomanhpoaaGreatDoorZqOvC
namespace Go.Proofs.YtmdbpkomanhpoaaGreatDoor
open Go.RowKit Go.Lib

set_option maxRecDepth 100000 in
set_option maxHeartbeats 8000000 in
theorem weldReg3 {w W : World} {gr gx : Nat} (hB : Below w.heap.size w W) (hgr : w.heap.size ≤ gr) (br : Blk W gr 33 #[.slice none 0 0, .string ⟨#[]⟩, .slice none 0 0, .slice none 0 0, .int .i64 0, .slice none 0 0, .int .i64 0, .int .i64 0, .int .i64 0, .int .i64 0, .int .i64 0, .int .i64 0, .slice none 0 0]) (bx : Blk W gx 101 (bxC weldLow)) {t2 t3 t4 t5 t6 t7 t8 t9 t10 t11 t12 t13 t14 t15 t16 t17 t18 t19 t20 t21 t22 t23 : Value} {ds : List Deferred} (Q : Exit → Act → World → Prop)
    (h : ∀ (t5 t6 t7 t8 t9 t10 t11 t12 t13 t14 t15 t16 t17 t18 t19 t20 t21 t22 t23 : Value) (m : Me) (w' : World), SeOk weldS m w'.heap.size w' → Blk w' gr 33 (seC weldS m) → Below w.heap.size w w' → Q .normal ⟨#[.pointer (some ⟨gr, 0, none⟩), .pointer (some ⟨gx, 0, none⟩), t2, t3, t4, t5, t6, t7, t8, t9, t10, t11, t12, t13, t14, t15, t16, t17, t18, t19, t20, t21, t22, t23], ds⟩ w') :
    (regOf Tryz.f15 3).wp Tryz.prog Q ⟨#[.pointer (some ⟨gr, 0, none⟩), .pointer (some ⟨gx, 0, none⟩), t2, t3, t4, t5, t6, t7, t8, t9, t10, t11, t12, t13, t14, t15, t16, t17, t18, t19, t20, t21, t22, t23], ds⟩ W := by
  have H := Lib.hid h; clear h
  have HGR := Lib.hid hgr
  have HOK : Hid (∀ {W : World} {g4 g9 gc gd : Nat}, Blk W g4 104 #[.string ⟨#[97, 110, 110]⟩, .int .i64 1, .string ⟨#[98, 111, 98]⟩, .int .i64 2, .string ⟨#[99, 105, 100]⟩, .int .i64 2, .string ⟨#[100, 111, 114, 97]⟩, .int .i64 3] → Blk W g9 106 #[.int .i64 (weldLow 0), .int .i64 (weldLow 1), .int .i64 (weldLow 2), .int .i64 (weldLow 3), .int .i64 (weldLow 4), .int .i64 (weldLow 5), .int .i64 (weldLow 6), .int .i64 (weldLow 7), .int .i64 (weldLow 8), .int .i64 (weldLow 9), .int .i64 (weldLow 10), .int .i64 (weldLow 11), .int .i64 0, .int .i64 (weldTop 0), .int .i64 (weldTop 1), .int .i64 (weldTop 2), .int .i64 (weldTop 3), .int .i64 (weldTop 4), .int .i64 (weldTop 5), .int .i64 (weldTop 6), .int .i64 (weldTop 7), .int .i64 (weldTop 8), .int .i64 (weldTop 9), .int .i64 (weldTop 10), .int .i64 (weldTop 11), .int .i64 1] → Blk W gc 109 #[.string ⟨#[103, 97, 105, 110]⟩, .int .i64 100, .int .i64 50, .slice none 0 0] → Blk W gd 111 #[.int .i64 100, .int .i64 5, .int .i64 900, .int .i64 12] → SeOk weldS ⟨some ⟨g4, 0, none⟩, 4, none, 0, some ⟨g9, 0, none⟩, 2, some ⟨gc, 0, none⟩, 1, some ⟨gd, 0, none⟩, 2⟩ W.heap.size W) := Lib.hid weldOk
  conv in (regOf _ _) => whnf
  refine wp_region_w (fun w' => Below w.heap.size w w' ∧ Blk w' gx 101 (bxC weldLow)) (by kernel_rfl) ((And.intro hB.drew bx.drew)) ?_
  refine wpW_det (t' := ?ct0R28) 0 (by rfl) (by kernel_rfl) (NQ_free _) (by kernel_rfl) ?cw0R28 ?ch0R28 ?ca0R28 (Eq.refl _) ?cH0R28
  case cw0R28 => (go_simp; done)
  case ch0R28 =>
    intro ds w' hS K hK
    obtain ⟨m0, m1, m2, m3, m4, m5, m6, m7, m8, m9, m10, m11, mf⟩ := blk12o hS.2
    have lm := hS.2.lt
    go_simp
    try go_bits
    first
      | exact hK _ hS (Gr.refl _)
      | (go_at_call 35; refine (whole_any _).mono ?_; rintro e wq ⟨rfl, hBq⟩; exact hK _ (And.intro (Below.trans hS.1 (Below.mono hBq (Below.size hS.1))) (Blk.gr hS.2 hBq)) hBq)
  case ca0R28 => (first | (simp [Act.put]; done) | (simp [Act.put, *]; done))
  try dsimp only
  refine wpW_det (t' := ?ct1R28) 1 (by rfl) (by kernel_rfl) (NQ_free _) (by kernel_rfl) ?cw1R28 ?ch1R28 ?ca1R28 (Eq.refl _) ?cH1R28
  case cw1R28 => (go_simp; done)
  case ch1R28 =>
    intro ds w' hS K hK
    obtain ⟨m0, m1, m2, m3, m4, m5, m6, m7, m8, m9, m10, m11, mf⟩ := blk12o hS.2
    have lm := hS.2.lt
    go_simp
    try go_bits
    first
      | exact hK _ hS (Gr.refl _)
      | (go_at_call 35; refine (whole_any _).mono ?_; rintro e wq ⟨rfl, hBq⟩; exact hK _ (And.intro (Below.trans hS.1 (Below.mono hBq (Below.size hS.1))) (Blk.gr hS.2 hBq)) hBq)
  case ca1R28 => (first | (simp [Act.put]; done) | (simp [Act.put, *]; done))
  try dsimp only
  refine wpW_det (t' := ?ct2R28) 2 (by rfl) (by kernel_rfl) (NQ_free _) (by kernel_rfl) ?cw2R28 ?ch2R28 ?ca2R28 (Eq.refl _) ?cH2R28
  case cw2R28 => (go_simp; done)
  case ch2R28 =>
    intro ds w' hS K hK
    obtain ⟨m0, m1, m2, m3, m4, m5, m6, m7, m8, m9, m10, m11, mf⟩ := blk12o hS.2
    have lm := hS.2.lt
    go_simp
    try go_bits
    first
      | exact hK _ hS (Gr.refl _)
      | (go_at_call 35; refine (whole_any _).mono ?_; rintro e wq ⟨rfl, hBq⟩; exact hK _ (And.intro (Below.trans hS.1 (Below.mono hBq (Below.size hS.1))) (Blk.gr hS.2 hBq)) hBq)
  case ca2R28 => (first | (simp [Act.put]; done) | (simp [Act.put, *]; done))
  try dsimp only
  refine wpW_det (t' := ?ct3R28) 3 (by rfl) (by kernel_rfl) (NQ_free _) (by kernel_rfl) ?cw3R28 ?ch3R28 ?ca3R28 (Eq.refl _) ?cH3R28
  case cw3R28 => (go_simp; done)
  case ch3R28 =>
    intro ds w' hS K hK
    obtain ⟨m0, m1, m2, m3, m4, m5, m6, m7, m8, m9, m10, m11, mf⟩ := blk12o hS.2
    have lm := hS.2.lt
    go_simp
    try go_bits
    first
      | exact hK _ hS (Gr.refl _)
      | (go_at_call 35; refine (whole_any _).mono ?_; rintro e wq ⟨rfl, hBq⟩; exact hK _ (And.intro (Below.trans hS.1 (Below.mono hBq (Below.size hS.1))) (Blk.gr hS.2 hBq)) hBq)
  case ca3R28 => (first | (simp [Act.put]; done) | (simp [Act.put, *]; done))
  try dsimp only
  refine wpW_det (t' := ?ct5R28) 5 (by rfl) (by kernel_rfl) (NQ_free _) (by kernel_rfl) ?cw5R28 ?ch5R28 ?ca5R28 (Eq.refl _) ?cH5R28
  case cw5R28 => (go_simp; done)
  case ch5R28 =>
    intro ds w' hS K hK
    obtain ⟨m0, m1, m2, m3, m4, m5, m6, m7, m8, m9, m10, m11, mf⟩ := blk12o hS.2
    have lm := hS.2.lt
    go_simp
    try go_bits
    first
      | exact hK _ hS (Gr.refl _)
      | (go_at_call 35; refine (whole_any _).mono ?_; rintro e wq ⟨rfl, hBq⟩; exact hK _ (And.intro (Below.trans hS.1 (Below.mono hBq (Below.size hS.1))) (Blk.gr hS.2 hBq)) hBq)
  case ca5R28 => (first | (simp [Act.put]; done) | (simp [Act.put, *]; done))
  try dsimp only
  refine wpW_det (t' := ?ct6R28) 6 (by rfl) (by kernel_rfl) (NQ_free _) (by kernel_rfl) ?cw6R28 ?ch6R28 ?ca6R28 (Eq.refl _) ?cH6R28
  case cw6R28 => (go_simp; done)
  case ch6R28 =>
    intro ds w' hS K hK
    obtain ⟨m0, m1, m2, m3, m4, m5, m6, m7, m8, m9, m10, m11, mf⟩ := blk12o hS.2
    have lm := hS.2.lt
    go_simp
    try go_bits
    first
      | exact hK _ hS (Gr.refl _)
      | (go_at_call 35; refine (whole_any _).mono ?_; rintro e wq ⟨rfl, hBq⟩; exact hK _ (And.intro (Below.trans hS.1 (Below.mono hBq (Below.size hS.1))) (Blk.gr hS.2 hBq)) hBq)
  case ca6R28 => (first | (simp [Act.put]; done) | (simp [Act.put, *]; done))
  try dsimp only
  refine wpW_det (t' := ?ct7R28) 7 (by rfl) (by kernel_rfl) (NQ_free _) (by kernel_rfl) ?cw7R28 ?ch7R28 ?ca7R28 (Eq.refl _) ?cH7R28
  case cw7R28 => (go_simp; done)
  case ch7R28 =>
    intro ds w' hS K hK
    obtain ⟨m0, m1, m2, m3, m4, m5, m6, m7, m8, m9, m10, m11, mf⟩ := blk12o hS.2
    have lm := hS.2.lt
    go_simp
    try go_bits
    first
      | exact hK _ hS (Gr.refl _)
      | (go_at_call 35; refine (whole_any _).mono ?_; rintro e wq ⟨rfl, hBq⟩; exact hK _ (And.intro (Below.trans hS.1 (Below.mono hBq (Below.size hS.1))) (Blk.gr hS.2 hBq)) hBq)
  case ca7R28 => (first | (simp [Act.put]; done) | (simp [Act.put, *]; done))
  try dsimp only
  refine wpW_det (t' := ?ct8R28) 8 (by rfl) (by kernel_rfl) (NQ_free _) (by kernel_rfl) ?cw8R28 ?ch8R28 ?ca8R28 (Eq.refl _) ?cH8R28
  case cw8R28 => (go_simp; done)
  case ch8R28 =>
    intro ds w' hS K hK
    obtain ⟨m0, m1, m2, m3, m4, m5, m6, m7, m8, m9, m10, m11, mf⟩ := blk12o hS.2
    have lm := hS.2.lt
    go_simp
    try go_bits
    first
      | exact hK _ hS (Gr.refl _)
      | (go_at_call 35; refine (whole_any _).mono ?_; rintro e wq ⟨rfl, hBq⟩; exact hK _ (And.intro (Below.trans hS.1 (Below.mono hBq (Below.size hS.1))) (Blk.gr hS.2 hBq)) hBq)
  case ca8R28 => (first | (simp [Act.put]; done) | (simp [Act.put, *]; done))
  try dsimp only
  refine wpW_det (t' := ?ct11R28) 11 (by rfl) (by kernel_rfl) (NQ_free _) (by kernel_rfl) ?cw11R28 ?ch11R28 ?ca11R28 (Eq.refl _) ?cH11R28
  case cw11R28 => (go_simp; done)
  case ch11R28 =>
    intro ds w' hS K hK
    obtain ⟨m0, m1, m2, m3, m4, m5, m6, m7, m8, m9, m10, m11, mf⟩ := blk12o hS.2
    have lm := hS.2.lt
    go_simp
    try go_bits
    first
      | exact hK _ hS (Gr.refl _)
      | (go_at_call 35; refine (whole_any _).mono ?_; rintro e wq ⟨rfl, hBq⟩; exact hK _ (And.intro (Below.trans hS.1 (Below.mono hBq (Below.size hS.1))) (Blk.gr hS.2 hBq)) hBq)
  case ca11R28 => (first | (simp [Act.put]; done) | (simp [Act.put, *]; done))
  try dsimp only
  refine wpW_det (t' := ?ct13R28) 13 (by rfl) (by kernel_rfl) (NQ_free _) (by kernel_rfl) ?cw13R28 ?ch13R28 ?ca13R28 (Eq.refl _) ?cH13R28
  case cw13R28 => (go_simp; done)
  case ch13R28 =>
    intro ds w' hS K hK
    obtain ⟨m0, m1, m2, m3, m4, m5, m6, m7, m8, m9, m10, m11, mf⟩ := blk12o hS.2
    have lm := hS.2.lt
    go_simp
    try go_bits
    first
      | exact hK _ hS (Gr.refl _)
      | (go_at_call 35; refine (whole_any _).mono ?_; rintro e wq ⟨rfl, hBq⟩; exact hK _ (And.intro (Below.trans hS.1 (Below.mono hBq (Below.size hS.1))) (Blk.gr hS.2 hBq)) hBq)
  case ca13R28 => (first | (simp [Act.put]; done) | (simp [Act.put, *]; done))
  try dsimp only
  refine wpW_det (t' := ?ct14R28) 14 (by rfl) (by kernel_rfl) (NQ_free _) (by kernel_rfl) ?cw14R28 ?ch14R28 ?ca14R28 (Eq.refl _) ?cH14R28
  case cw14R28 => (go_simp; done)
  case ch14R28 =>
    intro ds w' hS K hK
    obtain ⟨m0, m1, m2, m3, m4, m5, m6, m7, m8, m9, m10, m11, mf⟩ := blk12o hS.2
    have lm := hS.2.lt
    go_simp
    try go_bits
    first
      | exact hK _ hS (Gr.refl _)
      | (go_at_call 35; refine (whole_any _).mono ?_; rintro e wq ⟨rfl, hBq⟩; exact hK _ (And.intro (Below.trans hS.1 (Below.mono hBq (Below.size hS.1))) (Blk.gr hS.2 hBq)) hBq)
  case ca14R28 => (first | (simp [Act.put]; done) | (simp [Act.put, *]; done))
  try dsimp only
  refine wpW_det (t' := ?ct15R28) 15 (by rfl) (by kernel_rfl) (NQ_free _) (by kernel_rfl) ?cw15R28 ?ch15R28 ?ca15R28 (Eq.refl _) ?cH15R28
  case cw15R28 => (go_simp; done)
  case ch15R28 =>
    intro ds w' hS K hK
    obtain ⟨m0, m1, m2, m3, m4, m5, m6, m7, m8, m9, m10, m11, mf⟩ := blk12o hS.2
    have lm := hS.2.lt
    go_simp
    try go_bits
    first
      | exact hK _ hS (Gr.refl _)
      | (go_at_call 35; refine (whole_any _).mono ?_; rintro e wq ⟨rfl, hBq⟩; exact hK _ (And.intro (Below.trans hS.1 (Below.mono hBq (Below.size hS.1))) (Blk.gr hS.2 hBq)) hBq)
  case ca15R28 => (first | (simp [Act.put]; done) | (simp [Act.put, *]; done))
  try dsimp only
  refine wpW_det (t' := ?ct16R28) 16 (by rfl) (by kernel_rfl) (NQ_free _) (by kernel_rfl) ?cw16R28 ?ch16R28 ?ca16R28 (Eq.refl _) ?cH16R28
  case cw16R28 => (go_simp; done)
  case ch16R28 =>
    intro ds w' hS K hK
    obtain ⟨m0, m1, m2, m3, m4, m5, m6, m7, m8, m9, m10, m11, mf⟩ := blk12o hS.2
    have lm := hS.2.lt
    go_simp
    try go_bits
    first
      | exact hK _ hS (Gr.refl _)
      | (go_at_call 35; refine (whole_any _).mono ?_; rintro e wq ⟨rfl, hBq⟩; exact hK _ (And.intro (Below.trans hS.1 (Below.mono hBq (Below.size hS.1))) (Blk.gr hS.2 hBq)) hBq)
  case ca16R28 => (first | (simp [Act.put]; done) | (simp [Act.put, *]; done))
  try dsimp only
  have br : Blk W.drew gr 33 #[.slice none 0 0, .string ⟨#[]⟩, .slice none 0 0, .slice none 0 0, .int .i64 0, .slice none 0 0, .int .i64 0, .int .i64 0, .int .i64 0, .int .i64 0, .int .i64 0, .int .i64 0, .slice none 0 0] := br.drew
  clear hB bx
  refine wpW_branch [4, 9, 12, 17] (by kernel_rfl) (by simp) ?_
  intro w1 hg1 hS1
  try clear z
  have z := hS1
  replace br := Blk.gr br hg1
  refine each_cons ?_ (each_cons ?_ (each_cons ?_ (each_cons ?_ (each_nil))))
  · refine wpOp_go (by rfl) (Eq.refl _) (by go_simp; done) ?_
    intro K hK
    go_simp
    try simp only [Act.put]
    have b4 := Blk.new w1 104 #[.string ⟨#[97, 110, 110]⟩, .int .i64 1, .string ⟨#[98, 111, 98]⟩, .int .i64 2, .string ⟨#[99, 105, 100]⟩, .int .i64 2, .string ⟨#[100, 111, 114, 97]⟩, .int .i64 3]
    have hal : Gr w1 (w1.alloc (.cells #[.string ⟨#[97, 110, 110]⟩, .int .i64 1, .string ⟨#[98, 111, 98]⟩, .int .i64 2, .string ⟨#[99, 105, 100]⟩, .int .i64 2, .string ⟨#[100, 111, 114, 97]⟩, .int .i64 3] 104)) := (Below.refl _ _).alloc (Nat.le_refl _) _
    replace z := And.intro (Below.trans z.1 (Below.mono hal (Below.size z.1))) (Blk.gr z.2 hal)
    replace br := Blk.gr br hal
    try replace b9 := Blk.gr b9 hal
    try replace bc := Blk.gr bc hal
    try replace bd := Blk.gr bd hal
    clear hal
    generalize w1.heap.size = g4 at *
    refine hK _ _ z ?_
    clear hK K
    refine wpW_branch [9, 12, 17] (by kernel_rfl) (by simp) ?_
    intro w2 hg2 hS2
    try clear z
    have z := hS2
    replace br := Blk.gr br hg2
    replace b4 := Blk.gr b4 hg2
    refine each_cons ?_ (each_cons ?_ (each_cons ?_ (each_nil)))
    · refine wpOp_go (by rfl) (Eq.refl _) (by go_simp; done) ?_
      intro K hK
      go_simp
      try simp only [Act.put]
      have b9 := Blk.new w2 106 #[.int .i64 (weldLow 0), .int .i64 (weldLow 1), .int .i64 (weldLow 2), .int .i64 (weldLow 3), .int .i64 (weldLow 4), .int .i64 (weldLow 5), .int .i64 (weldLow 6), .int .i64 (weldLow 7), .int .i64 (weldLow 8), .int .i64 (weldLow 9), .int .i64 (weldLow 10), .int .i64 (weldLow 11), .int .i64 0, .int .i64 (weldTop 0), .int .i64 (weldTop 1), .int .i64 (weldTop 2), .int .i64 (weldTop 3), .int .i64 (weldTop 4), .int .i64 (weldTop 5), .int .i64 (weldTop 6), .int .i64 (weldTop 7), .int .i64 (weldTop 8), .int .i64 (weldTop 9), .int .i64 (weldTop 10), .int .i64 (weldTop 11), .int .i64 1]
      have hal : Gr w2 (w2.alloc (.cells #[.int .i64 (weldLow 0), .int .i64 (weldLow 1), .int .i64 (weldLow 2), .int .i64 (weldLow 3), .int .i64 (weldLow 4), .int .i64 (weldLow 5), .int .i64 (weldLow 6), .int .i64 (weldLow 7), .int .i64 (weldLow 8), .int .i64 (weldLow 9), .int .i64 (weldLow 10), .int .i64 (weldLow 11), .int .i64 0, .int .i64 (weldTop 0), .int .i64 (weldTop 1), .int .i64 (weldTop 2), .int .i64 (weldTop 3), .int .i64 (weldTop 4), .int .i64 (weldTop 5), .int .i64 (weldTop 6), .int .i64 (weldTop 7), .int .i64 (weldTop 8), .int .i64 (weldTop 9), .int .i64 (weldTop 10), .int .i64 (weldTop 11), .int .i64 1] 106)) := (Below.refl _ _).alloc (Nat.le_refl _) _
      replace z := And.intro (Below.trans z.1 (Below.mono hal (Below.size z.1))) (Blk.gr z.2 hal)
      replace br := Blk.gr br hal
      try replace b4 := Blk.gr b4 hal
      try replace bc := Blk.gr bc hal
      try replace bd := Blk.gr bd hal
      clear hal
      generalize w2.heap.size = g9 at *
      refine hK _ _ z ?_
      clear hK K
      refine wpW_det (t' := ?ct10R29) 10 (by rfl) (by kernel_rfl) (NQ_free _) (by kernel_rfl) ?cw10R29 ?ch10R29 ?ca10R29 (Eq.refl _) ?cH10R29
      case cw10R29 => (go_simp; done)
      case ch10R29 =>
        intro ds w' hS K hK
        go_simp
        try go_bits
        exact hK _ hS (Gr.refl _)
      case ca10R29 => (first | (simp [Act.put]; done) | (simp [Act.put, *]; done))
      try dsimp only
      refine wpW_branch [12, 17] (by kernel_rfl) (by simp) ?_
      intro w3 hg3 hS3
      try clear z
      have z := hS3
      replace br := Blk.gr br hg3
      replace b4 := Blk.gr b4 hg3
      replace b9 := Blk.gr b9 hg3
      refine each_cons ?_ (each_cons ?_ (each_nil))
      · refine wpOp_go (by rfl) (Eq.refl _) (by go_simp; done) ?_
        intro K hK
        go_simp
        try simp only [Act.put]
        have bc := Blk.new w3 109 #[.string ⟨#[103, 97, 105, 110]⟩, .int .i64 100, .int .i64 50, .slice none 0 0]
        have hal : Gr w3 (w3.alloc (.cells #[.string ⟨#[103, 97, 105, 110]⟩, .int .i64 100, .int .i64 50, .slice none 0 0] 109)) := (Below.refl _ _).alloc (Nat.le_refl _) _
        replace z := And.intro (Below.trans z.1 (Below.mono hal (Below.size z.1))) (Blk.gr z.2 hal)
        replace br := Blk.gr br hal
        try replace b4 := Blk.gr b4 hal
        try replace b9 := Blk.gr b9 hal
        try replace bd := Blk.gr bd hal
        clear hal
        generalize w3.heap.size = gc at *
        refine hK _ _ z ?_
        clear hK K
        refine wpW_branch [17] (by kernel_rfl) (by simp) ?_
        intro w4 hg4 hS4
        try clear z
        have z := hS4
        replace br := Blk.gr br hg4
        replace b4 := Blk.gr b4 hg4
        replace b9 := Blk.gr b9 hg4
        replace bc := Blk.gr bc hg4
        refine each_cons ?_ (each_nil)
        refine wpOp_go (by rfl) (Eq.refl _) (by go_simp; done) ?_
        intro K hK
        go_simp
        try simp only [Act.put]
        have bd := Blk.new w4 111 #[.int .i64 100, .int .i64 5, .int .i64 900, .int .i64 12]
        have hal : Gr w4 (w4.alloc (.cells #[.int .i64 100, .int .i64 5, .int .i64 900, .int .i64 12] 111)) := (Below.refl _ _).alloc (Nat.le_refl _) _
        replace z := And.intro (Below.trans z.1 (Below.mono hal (Below.size z.1))) (Blk.gr z.2 hal)
        replace br := Blk.gr br hal
        try replace b4 := Blk.gr b4 hal
        try replace b9 := Blk.gr b9 hal
        try replace bc := Blk.gr bc hal
        clear hal
        generalize w4.heap.size = gd at *
        refine hK _ _ z ?_
        clear hK K
        refine wpW_det (t' := ?ct18R30) 18 (by rfl) (by kernel_rfl) (NQ_free _) (by kernel_rfl) ?cw18R30 ?ch18R30 ?ca18R30 (Eq.refl _) ?cH18R30
        case cw18R30 => (go_simp; done)
        case ch18R30 =>
          intro ds w' hS K hK
          go_simp
          try go_bits
          exact hK _ hS (Gr.refl _)
        case ca18R30 => (first | (simp [Act.put]; done) | (simp [Act.put, *]; done))
        try dsimp only
        refine wpW_branch [19] (by kernel_rfl) (by simp) ?_
        intro wz hg_wz hS_wz
        replace br := Blk.gr br hg_wz
        replace b4 := Blk.gr b4 hg_wz
        replace b9 := Blk.gr b9 hg_wz
        replace bc := Blk.gr bc hg_wz
        replace bd := Blk.gr bd hg_wz
        obtain ⟨z0, z1, z2, z3, z4, z5, z6, z7, z8, z9, z10, z11, z12, zf⟩ := blk13 br
        have lr := br.lt
        refine each_cons ?_ each_nil
        refine wpOp_go (by rfl) (Eq.refl _) (by go_simp; done) ?_
        intro K hK
        go_simp
        try simp only [Act.put]
        refine hK _ _ (And.intro (Below.set13 hS_wz.1 HGR.out (.slice (some ⟨g4, 0, none⟩) 4 4) (.string ⟨#[99]⟩) (.slice none 0 0) (.slice (some ⟨g9, 0, none⟩) 2 2) (.int .i64 1000) (.slice (some ⟨gc, 0, none⟩) 1 1) (.int .i64 0) (.int .i64 20) (.int .i64 0) (.int .i64 10) (.int .i64 0) (.int .i64 60) (.slice (some ⟨gd, 0, none⟩) 2 2)) (Blk.far13 hS_wz.2 (Blk.ne_ hS_wz.2 br (by decide)) (.slice (some ⟨g4, 0, none⟩) 4 4) (.string ⟨#[99]⟩) (.slice none 0 0) (.slice (some ⟨g9, 0, none⟩) 2 2) (.int .i64 1000) (.slice (some ⟨gc, 0, none⟩) 1 1) (.int .i64 0) (.int .i64 20) (.int .i64 0) (.int .i64 10) (.int .i64 0) (.int .i64 60) (.slice (some ⟨gd, 0, none⟩) 2 2))) ?_
        clear hK K z0 z1 z2 z3 z4 z5 z6 z7 z8 z9 z10 z11 z12 zf lr
        refine wpW_end (by kernel_rfl) ?_
        intro we hg hS
        unfold NQ
        dsimp only
        exact H.out _ _ _ _ _ _ _ _ _ _ _ _ _ _ _ _ _ _ _ _ we (HOK.out (Blk.gr (b4.far13 (Blk.ne_ b4 br (by decide)) (.slice (some ⟨g4, 0, none⟩) 4 4) (.string ⟨#[99]⟩) (.slice none 0 0) (.slice (some ⟨g9, 0, none⟩) 2 2) (.int .i64 1000) (.slice (some ⟨gc, 0, none⟩) 1 1) (.int .i64 0) (.int .i64 20) (.int .i64 0) (.int .i64 10) (.int .i64 0) (.int .i64 60) (.slice (some ⟨gd, 0, none⟩) 2 2)) hg) (Blk.gr (b9.far13 (Blk.ne_ b9 br (by decide)) (.slice (some ⟨g4, 0, none⟩) 4 4) (.string ⟨#[99]⟩) (.slice none 0 0) (.slice (some ⟨g9, 0, none⟩) 2 2) (.int .i64 1000) (.slice (some ⟨gc, 0, none⟩) 1 1) (.int .i64 0) (.int .i64 20) (.int .i64 0) (.int .i64 10) (.int .i64 0) (.int .i64 60) (.slice (some ⟨gd, 0, none⟩) 2 2)) hg) (Blk.gr (bc.far13 (Blk.ne_ bc br (by decide)) (.slice (some ⟨g4, 0, none⟩) 4 4) (.string ⟨#[99]⟩) (.slice none 0 0) (.slice (some ⟨g9, 0, none⟩) 2 2) (.int .i64 1000) (.slice (some ⟨gc, 0, none⟩) 1 1) (.int .i64 0) (.int .i64 20) (.int .i64 0) (.int .i64 10) (.int .i64 0) (.int .i64 60) (.slice (some ⟨gd, 0, none⟩) 2 2)) hg) (Blk.gr (bd.far13 (Blk.ne_ bd br (by decide)) (.slice (some ⟨g4, 0, none⟩) 4 4) (.string ⟨#[99]⟩) (.slice none 0 0) (.slice (some ⟨g9, 0, none⟩) 2 2) (.int .i64 1000) (.slice (some ⟨gc, 0, none⟩) 1 1) (.int .i64 0) (.int .i64 20) (.int .i64 0) (.int .i64 10) (.int .i64 0) (.int .i64 60) (.slice (some ⟨gd, 0, none⟩) 2 2)) hg)) (Blk.gr (br.set13 (.slice (some ⟨g4, 0, none⟩) 4 4) (.string ⟨#[99]⟩) (.slice none 0 0) (.slice (some ⟨g9, 0, none⟩) 2 2) (.int .i64 1000) (.slice (some ⟨gc, 0, none⟩) 1 1) (.int .i64 0) (.int .i64 20) (.int .i64 0) (.int .i64 10) (.int .i64 0) (.int .i64 60) (.slice (some ⟨gd, 0, none⟩) 2 2)) hg) hS.1
      · refine wpOp_go (by rfl) (Eq.refl _) (by go_simp; done) ?_
        intro K hK
        go_simp
        try simp only [Act.put]
        have bd := Blk.new w3 111 #[.int .i64 100, .int .i64 5, .int .i64 900, .int .i64 12]
        have hal : Gr w3 (w3.alloc (.cells #[.int .i64 100, .int .i64 5, .int .i64 900, .int .i64 12] 111)) := (Below.refl _ _).alloc (Nat.le_refl _) _
        replace z := And.intro (Below.trans z.1 (Below.mono hal (Below.size z.1))) (Blk.gr z.2 hal)
        replace br := Blk.gr br hal
        try replace b4 := Blk.gr b4 hal
        try replace b9 := Blk.gr b9 hal
        try replace bc := Blk.gr bc hal
        clear hal
        generalize w3.heap.size = gd at *
        refine hK _ _ z ?_
        clear hK K
        refine wpW_branch [12] (by kernel_rfl) (by simp) ?_
        intro w4 hg4 hS4
        try clear z
        have z := hS4
        replace br := Blk.gr br hg4
        replace b4 := Blk.gr b4 hg4
        replace b9 := Blk.gr b9 hg4
        replace bd := Blk.gr bd hg4
        refine each_cons ?_ (each_nil)
        refine wpOp_go (by rfl) (Eq.refl _) (by go_simp; done) ?_
        intro K hK
        go_simp
        try simp only [Act.put]
        have bc := Blk.new w4 109 #[.string ⟨#[103, 97, 105, 110]⟩, .int .i64 100, .int .i64 50, .slice none 0 0]
        have hal : Gr w4 (w4.alloc (.cells #[.string ⟨#[103, 97, 105, 110]⟩, .int .i64 100, .int .i64 50, .slice none 0 0] 109)) := (Below.refl _ _).alloc (Nat.le_refl _) _
        replace z := And.intro (Below.trans z.1 (Below.mono hal (Below.size z.1))) (Blk.gr z.2 hal)
        replace br := Blk.gr br hal
        try replace b4 := Blk.gr b4 hal
        try replace b9 := Blk.gr b9 hal
        try replace bd := Blk.gr bd hal
        clear hal
        generalize w4.heap.size = gc at *
        refine hK _ _ z ?_
        clear hK K
        refine wpW_det (t' := ?ct18R31) 18 (by rfl) (by kernel_rfl) (NQ_free _) (by kernel_rfl) ?cw18R31 ?ch18R31 ?ca18R31 (Eq.refl _) ?cH18R31
        case cw18R31 => (go_simp; done)
        case ch18R31 =>
          intro ds w' hS K hK
          go_simp
          try go_bits
          exact hK _ hS (Gr.refl _)
        case ca18R31 => (first | (simp [Act.put]; done) | (simp [Act.put, *]; done))
        try dsimp only
        refine wpW_branch [19] (by kernel_rfl) (by simp) ?_
        intro wz hg_wz hS_wz
        replace br := Blk.gr br hg_wz
        replace b4 := Blk.gr b4 hg_wz
        replace b9 := Blk.gr b9 hg_wz
        replace bc := Blk.gr bc hg_wz
        replace bd := Blk.gr bd hg_wz
        obtain ⟨z0, z1, z2, z3, z4, z5, z6, z7, z8, z9, z10, z11, z12, zf⟩ := blk13 br
        have lr := br.lt
        refine each_cons ?_ each_nil
        refine wpOp_go (by rfl) (Eq.refl _) (by go_simp; done) ?_
        intro K hK
        go_simp
        try simp only [Act.put]
        refine hK _ _ (And.intro (Below.set13 hS_wz.1 HGR.out (.slice (some ⟨g4, 0, none⟩) 4 4) (.string ⟨#[99]⟩) (.slice none 0 0) (.slice (some ⟨g9, 0, none⟩) 2 2) (.int .i64 1000) (.slice (some ⟨gc, 0, none⟩) 1 1) (.int .i64 0) (.int .i64 20) (.int .i64 0) (.int .i64 10) (.int .i64 0) (.int .i64 60) (.slice (some ⟨gd, 0, none⟩) 2 2)) (Blk.far13 hS_wz.2 (Blk.ne_ hS_wz.2 br (by decide)) (.slice (some ⟨g4, 0, none⟩) 4 4) (.string ⟨#[99]⟩) (.slice none 0 0) (.slice (some ⟨g9, 0, none⟩) 2 2) (.int .i64 1000) (.slice (some ⟨gc, 0, none⟩) 1 1) (.int .i64 0) (.int .i64 20) (.int .i64 0) (.int .i64 10) (.int .i64 0) (.int .i64 60) (.slice (some ⟨gd, 0, none⟩) 2 2))) ?_
        clear hK K z0 z1 z2 z3 z4 z5 z6 z7 z8 z9 z10 z11 z12 zf lr
        refine wpW_end (by kernel_rfl) ?_
        intro we hg hS
        unfold NQ
        dsimp only
        exact H.out _ _ _ _ _ _ _ _ _ _ _ _ _ _ _ _ _ _ _ _ we (HOK.out (Blk.gr (b4.far13 (Blk.ne_ b4 br (by decide)) (.slice (some ⟨g4, 0, none⟩) 4 4) (.string ⟨#[99]⟩) (.slice none 0 0) (.slice (some ⟨g9, 0, none⟩) 2 2) (.int .i64 1000) (.slice (some ⟨gc, 0, none⟩) 1 1) (.int .i64 0) (.int .i64 20) (.int .i64 0) (.int .i64 10) (.int .i64 0) (.int .i64 60) (.slice (some ⟨gd, 0, none⟩) 2 2)) hg) (Blk.gr (b9.far13 (Blk.ne_ b9 br (by decide)) (.slice (some ⟨g4, 0, none⟩) 4 4) (.string ⟨#[99]⟩) (.slice none 0 0) (.slice (some ⟨g9, 0, none⟩) 2 2) (.int .i64 1000) (.slice (some ⟨gc, 0, none⟩) 1 1) (.int .i64 0) (.int .i64 20) (.int .i64 0) (.int .i64 10) (.int .i64 0) (.int .i64 60) (.slice (some ⟨gd, 0, none⟩) 2 2)) hg) (Blk.gr (bc.far13 (Blk.ne_ bc br (by decide)) (.slice (some ⟨g4, 0, none⟩) 4 4) (.string ⟨#[99]⟩) (.slice none 0 0) (.slice (some ⟨g9, 0, none⟩) 2 2) (.int .i64 1000) (.slice (some ⟨gc, 0, none⟩) 1 1) (.int .i64 0) (.int .i64 20) (.int .i64 0) (.int .i64 10) (.int .i64 0) (.int .i64 60) (.slice (some ⟨gd, 0, none⟩) 2 2)) hg) (Blk.gr (bd.far13 (Blk.ne_ bd br (by decide)) (.slice (some ⟨g4, 0, none⟩) 4 4) (.string ⟨#[99]⟩) (.slice none 0 0) (.slice (some ⟨g9, 0, none⟩) 2 2) (.int .i64 1000) (.slice (some ⟨gc, 0, none⟩) 1 1) (.int .i64 0) (.int .i64 20) (.int .i64 0) (.int .i64 10) (.int .i64 0) (.int .i64 60) (.slice (some ⟨gd, 0, none⟩) 2 2)) hg)) (Blk.gr (br.set13 (.slice (some ⟨g4, 0, none⟩) 4 4) (.string ⟨#[99]⟩) (.slice none 0 0) (.slice (some ⟨g9, 0, none⟩) 2 2) (.int .i64 1000) (.slice (some ⟨gc, 0, none⟩) 1 1) (.int .i64 0) (.int .i64 20) (.int .i64 0) (.int .i64 10) (.int .i64 0) (.int .i64 60) (.slice (some ⟨gd, 0, none⟩) 2 2)) hg) hS.1
    · refine wpOp_go (by rfl) (Eq.refl _) (by go_simp; done) ?_
      intro K hK
      go_simp
      try simp only [Act.put]
      have bc := Blk.new w2 109 #[.string ⟨#[103, 97, 105, 110]⟩, .int .i64 100, .int .i64 50, .slice none 0 0]
      have hal : Gr w2 (w2.alloc (.cells #[.string ⟨#[103, 97, 105, 110]⟩, .int .i64 100, .int .i64 50, .slice none 0 0] 109)) := (Below.refl _ _).alloc (Nat.le_refl _) _
      replace z := And.intro (Below.trans z.1 (Below.mono hal (Below.size z.1))) (Blk.gr z.2 hal)
      replace br := Blk.gr br hal
      try replace b4 := Blk.gr b4 hal
      try replace b9 := Blk.gr b9 hal
      try replace bd := Blk.gr bd hal
      clear hal
      generalize w2.heap.size = gc at *
      refine hK _ _ z ?_
      clear hK K
      refine wpW_branch [9, 17] (by kernel_rfl) (by simp) ?_
      intro w3 hg3 hS3
      try clear z
      have z := hS3
      replace br := Blk.gr br hg3
      replace b4 := Blk.gr b4 hg3
      replace bc := Blk.gr bc hg3
      refine each_cons ?_ (each_cons ?_ (each_nil))
      · refine wpOp_go (by rfl) (Eq.refl _) (by go_simp; done) ?_
        intro K hK
        go_simp
        try simp only [Act.put]
        have b9 := Blk.new w3 106 #[.int .i64 (weldLow 0), .int .i64 (weldLow 1), .int .i64 (weldLow 2), .int .i64 (weldLow 3), .int .i64 (weldLow 4), .int .i64 (weldLow 5), .int .i64 (weldLow 6), .int .i64 (weldLow 7), .int .i64 (weldLow 8), .int .i64 (weldLow 9), .int .i64 (weldLow 10), .int .i64 (weldLow 11), .int .i64 0, .int .i64 (weldTop 0), .int .i64 (weldTop 1), .int .i64 (weldTop 2), .int .i64 (weldTop 3), .int .i64 (weldTop 4), .int .i64 (weldTop 5), .int .i64 (weldTop 6), .int .i64 (weldTop 7), .int .i64 (weldTop 8), .int .i64 (weldTop 9), .int .i64 (weldTop 10), .int .i64 (weldTop 11), .int .i64 1]
        have hal : Gr w3 (w3.alloc (.cells #[.int .i64 (weldLow 0), .int .i64 (weldLow 1), .int .i64 (weldLow 2), .int .i64 (weldLow 3), .int .i64 (weldLow 4), .int .i64 (weldLow 5), .int .i64 (weldLow 6), .int .i64 (weldLow 7), .int .i64 (weldLow 8), .int .i64 (weldLow 9), .int .i64 (weldLow 10), .int .i64 (weldLow 11), .int .i64 0, .int .i64 (weldTop 0), .int .i64 (weldTop 1), .int .i64 (weldTop 2), .int .i64 (weldTop 3), .int .i64 (weldTop 4), .int .i64 (weldTop 5), .int .i64 (weldTop 6), .int .i64 (weldTop 7), .int .i64 (weldTop 8), .int .i64 (weldTop 9), .int .i64 (weldTop 10), .int .i64 (weldTop 11), .int .i64 1] 106)) := (Below.refl _ _).alloc (Nat.le_refl _) _
        replace z := And.intro (Below.trans z.1 (Below.mono hal (Below.size z.1))) (Blk.gr z.2 hal)
        replace br := Blk.gr br hal
        try replace b4 := Blk.gr b4 hal
        try replace bc := Blk.gr bc hal
        try replace bd := Blk.gr bd hal
        clear hal
        generalize w3.heap.size = g9 at *
        refine hK _ _ z ?_
        clear hK K
        refine wpW_det (t' := ?ct10R32) 10 (by rfl) (by kernel_rfl) (NQ_free _) (by kernel_rfl) ?cw10R32 ?ch10R32 ?ca10R32 (Eq.refl _) ?cH10R32
        case cw10R32 => (go_simp; done)
        case ch10R32 =>
          intro ds w' hS K hK
          go_simp
          try go_bits
          exact hK _ hS (Gr.refl _)
        case ca10R32 => (first | (simp [Act.put]; done) | (simp [Act.put, *]; done))
        try dsimp only
        refine wpW_branch [17] (by kernel_rfl) (by simp) ?_
        intro w4 hg4 hS4
        try clear z
        have z := hS4
        replace br := Blk.gr br hg4
        replace b4 := Blk.gr b4 hg4
        replace b9 := Blk.gr b9 hg4
        replace bc := Blk.gr bc hg4
        refine each_cons ?_ (each_nil)
        refine wpOp_go (by rfl) (Eq.refl _) (by go_simp; done) ?_
        intro K hK
        go_simp
        try simp only [Act.put]
        have bd := Blk.new w4 111 #[.int .i64 100, .int .i64 5, .int .i64 900, .int .i64 12]
        have hal : Gr w4 (w4.alloc (.cells #[.int .i64 100, .int .i64 5, .int .i64 900, .int .i64 12] 111)) := (Below.refl _ _).alloc (Nat.le_refl _) _
        replace z := And.intro (Below.trans z.1 (Below.mono hal (Below.size z.1))) (Blk.gr z.2 hal)
        replace br := Blk.gr br hal
        try replace b4 := Blk.gr b4 hal
        try replace b9 := Blk.gr b9 hal
        try replace bc := Blk.gr bc hal
        clear hal
        generalize w4.heap.size = gd at *
        refine hK _ _ z ?_
        clear hK K
        refine wpW_det (t' := ?ct18R33) 18 (by rfl) (by kernel_rfl) (NQ_free _) (by kernel_rfl) ?cw18R33 ?ch18R33 ?ca18R33 (Eq.refl _) ?cH18R33
        case cw18R33 => (go_simp; done)
        case ch18R33 =>
          intro ds w' hS K hK
          go_simp
          try go_bits
          exact hK _ hS (Gr.refl _)
        case ca18R33 => (first | (simp [Act.put]; done) | (simp [Act.put, *]; done))
        try dsimp only
        refine wpW_branch [19] (by kernel_rfl) (by simp) ?_
        intro wz hg_wz hS_wz
        replace br := Blk.gr br hg_wz
        replace b4 := Blk.gr b4 hg_wz
        replace b9 := Blk.gr b9 hg_wz
        replace bc := Blk.gr bc hg_wz
        replace bd := Blk.gr bd hg_wz
        obtain ⟨z0, z1, z2, z3, z4, z5, z6, z7, z8, z9, z10, z11, z12, zf⟩ := blk13 br
        have lr := br.lt
        refine each_cons ?_ each_nil
        refine wpOp_go (by rfl) (Eq.refl _) (by go_simp; done) ?_
        intro K hK
        go_simp
        try simp only [Act.put]
        refine hK _ _ (And.intro (Below.set13 hS_wz.1 HGR.out (.slice (some ⟨g4, 0, none⟩) 4 4) (.string ⟨#[99]⟩) (.slice none 0 0) (.slice (some ⟨g9, 0, none⟩) 2 2) (.int .i64 1000) (.slice (some ⟨gc, 0, none⟩) 1 1) (.int .i64 0) (.int .i64 20) (.int .i64 0) (.int .i64 10) (.int .i64 0) (.int .i64 60) (.slice (some ⟨gd, 0, none⟩) 2 2)) (Blk.far13 hS_wz.2 (Blk.ne_ hS_wz.2 br (by decide)) (.slice (some ⟨g4, 0, none⟩) 4 4) (.string ⟨#[99]⟩) (.slice none 0 0) (.slice (some ⟨g9, 0, none⟩) 2 2) (.int .i64 1000) (.slice (some ⟨gc, 0, none⟩) 1 1) (.int .i64 0) (.int .i64 20) (.int .i64 0) (.int .i64 10) (.int .i64 0) (.int .i64 60) (.slice (some ⟨gd, 0, none⟩) 2 2))) ?_
        clear hK K z0 z1 z2 z3 z4 z5 z6 z7 z8 z9 z10 z11 z12 zf lr
        refine wpW_end (by kernel_rfl) ?_
        intro we hg hS
        unfold NQ
        dsimp only
        exact H.out _ _ _ _ _ _ _ _ _ _ _ _ _ _ _ _ _ _ _ _ we (HOK.out (Blk.gr (b4.far13 (Blk.ne_ b4 br (by decide)) (.slice (some ⟨g4, 0, none⟩) 4 4) (.string ⟨#[99]⟩) (.slice none 0 0) (.slice (some ⟨g9, 0, none⟩) 2 2) (.int .i64 1000) (.slice (some ⟨gc, 0, none⟩) 1 1) (.int .i64 0) (.int .i64 20) (.int .i64 0) (.int .i64 10) (.int .i64 0) (.int .i64 60) (.slice (some ⟨gd, 0, none⟩) 2 2)) hg) (Blk.gr (b9.far13 (Blk.ne_ b9 br (by decide)) (.slice (some ⟨g4, 0, none⟩) 4 4) (.string ⟨#[99]⟩) (.slice none 0 0) (.slice (some ⟨g9, 0, none⟩) 2 2) (.int .i64 1000) (.slice (some ⟨gc, 0, none⟩) 1 1) (.int .i64 0) (.int .i64 20) (.int .i64 0) (.int .i64 10) (.int .i64 0) (.int .i64 60) (.slice (some ⟨gd, 0, none⟩) 2 2)) hg) (Blk.gr (bc.far13 (Blk.ne_ bc br (by decide)) (.slice (some ⟨g4, 0, none⟩) 4 4) (.string ⟨#[99]⟩) (.slice none 0 0) (.slice (some ⟨g9, 0, none⟩) 2 2) (.int .i64 1000) (.slice (some ⟨gc, 0, none⟩) 1 1) (.int .i64 0) (.int .i64 20) (.int .i64 0) (.int .i64 10) (.int .i64 0) (.int .i64 60) (.slice (some ⟨gd, 0, none⟩) 2 2)) hg) (Blk.gr (bd.far13 (Blk.ne_ bd br (by decide)) (.slice (some ⟨g4, 0, none⟩) 4 4) (.string ⟨#[99]⟩) (.slice none 0 0) (.slice (some ⟨g9, 0, none⟩) 2 2) (.int .i64 1000) (.slice (some ⟨gc, 0, none⟩) 1 1) (.int .i64 0) (.int .i64 20) (.int .i64 0) (.int .i64 10) (.int .i64 0) (.int .i64 60) (.slice (some ⟨gd, 0, none⟩) 2 2)) hg)) (Blk.gr (br.set13 (.slice (some ⟨g4, 0, none⟩) 4 4) (.string ⟨#[99]⟩) (.slice none 0 0) (.slice (some ⟨g9, 0, none⟩) 2 2) (.int .i64 1000) (.slice (some ⟨gc, 0, none⟩) 1 1) (.int .i64 0) (.int .i64 20) (.int .i64 0) (.int .i64 10) (.int .i64 0) (.int .i64 60) (.slice (some ⟨gd, 0, none⟩) 2 2)) hg) hS.1
      · refine wpOp_go (by rfl) (Eq.refl _) (by go_simp; done) ?_
        intro K hK
        go_simp
        try simp only [Act.put]
        have bd := Blk.new w3 111 #[.int .i64 100, .int .i64 5, .int .i64 900, .int .i64 12]
        have hal : Gr w3 (w3.alloc (.cells #[.int .i64 100, .int .i64 5, .int .i64 900, .int .i64 12] 111)) := (Below.refl _ _).alloc (Nat.le_refl _) _
        replace z := And.intro (Below.trans z.1 (Below.mono hal (Below.size z.1))) (Blk.gr z.2 hal)
        replace br := Blk.gr br hal
        try replace b4 := Blk.gr b4 hal
        try replace b9 := Blk.gr b9 hal
        try replace bc := Blk.gr bc hal
        clear hal
        generalize w3.heap.size = gd at *
        refine hK _ _ z ?_
        clear hK K
        refine wpW_branch [9] (by kernel_rfl) (by simp) ?_
        intro w4 hg4 hS4
        try clear z
        have z := hS4
        replace br := Blk.gr br hg4
        replace b4 := Blk.gr b4 hg4
        replace bc := Blk.gr bc hg4
        replace bd := Blk.gr bd hg4
        refine each_cons ?_ (each_nil)
        refine wpOp_go (by rfl) (Eq.refl _) (by go_simp; done) ?_
        intro K hK
        go_simp
        try simp only [Act.put]
        have b9 := Blk.new w4 106 #[.int .i64 (weldLow 0), .int .i64 (weldLow 1), .int .i64 (weldLow 2), .int .i64 (weldLow 3), .int .i64 (weldLow 4), .int .i64 (weldLow 5), .int .i64 (weldLow 6), .int .i64 (weldLow 7), .int .i64 (weldLow 8), .int .i64 (weldLow 9), .int .i64 (weldLow 10), .int .i64 (weldLow 11), .int .i64 0, .int .i64 (weldTop 0), .int .i64 (weldTop 1), .int .i64 (weldTop 2), .int .i64 (weldTop 3), .int .i64 (weldTop 4), .int .i64 (weldTop 5), .int .i64 (weldTop 6), .int .i64 (weldTop 7), .int .i64 (weldTop 8), .int .i64 (weldTop 9), .int .i64 (weldTop 10), .int .i64 (weldTop 11), .int .i64 1]
        have hal : Gr w4 (w4.alloc (.cells #[.int .i64 (weldLow 0), .int .i64 (weldLow 1), .int .i64 (weldLow 2), .int .i64 (weldLow 3), .int .i64 (weldLow 4), .int .i64 (weldLow 5), .int .i64 (weldLow 6), .int .i64 (weldLow 7), .int .i64 (weldLow 8), .int .i64 (weldLow 9), .int .i64 (weldLow 10), .int .i64 (weldLow 11), .int .i64 0, .int .i64 (weldTop 0), .int .i64 (weldTop 1), .int .i64 (weldTop 2), .int .i64 (weldTop 3), .int .i64 (weldTop 4), .int .i64 (weldTop 5), .int .i64 (weldTop 6), .int .i64 (weldTop 7), .int .i64 (weldTop 8), .int .i64 (weldTop 9), .int .i64 (weldTop 10), .int .i64 (weldTop 11), .int .i64 1] 106)) := (Below.refl _ _).alloc (Nat.le_refl _) _
        replace z := And.intro (Below.trans z.1 (Below.mono hal (Below.size z.1))) (Blk.gr z.2 hal)
        replace br := Blk.gr br hal
        try replace b4 := Blk.gr b4 hal
        try replace bc := Blk.gr bc hal
        try replace bd := Blk.gr bd hal
        clear hal
        generalize w4.heap.size = g9 at *
        refine hK _ _ z ?_
        clear hK K
        refine wpW_det (t' := ?ct10R34) 10 (by rfl) (by kernel_rfl) (NQ_free _) (by kernel_rfl) ?cw10R34 ?ch10R34 ?ca10R34 (Eq.refl _) ?cH10R34
        case cw10R34 => (go_simp; done)
        case ch10R34 =>
          intro ds w' hS K hK
          go_simp
          try go_bits
          exact hK _ hS (Gr.refl _)
        case ca10R34 => (first | (simp [Act.put]; done) | (simp [Act.put, *]; done))
        try dsimp only
        refine wpW_det (t' := ?ct18R35) 18 (by rfl) (by kernel_rfl) (NQ_free _) (by kernel_rfl) ?cw18R35 ?ch18R35 ?ca18R35 (Eq.refl _) ?cH18R35
        case cw18R35 => (go_simp; done)
        case ch18R35 =>
          intro ds w' hS K hK
          go_simp
          try go_bits
          exact hK _ hS (Gr.refl _)
        case ca18R35 => (first | (simp [Act.put]; done) | (simp [Act.put, *]; done))
        try dsimp only
        refine wpW_branch [19] (by kernel_rfl) (by simp) ?_
        intro wz hg_wz hS_wz
        replace br := Blk.gr br hg_wz
        replace b4 := Blk.gr b4 hg_wz
        replace b9 := Blk.gr b9 hg_wz
        replace bc := Blk.gr bc hg_wz
        replace bd := Blk.gr bd hg_wz
        obtain ⟨z0, z1, z2, z3, z4, z5, z6, z7, z8, z9, z10, z11, z12, zf⟩ := blk13 br
        have lr := br.lt
        refine each_cons ?_ each_nil
        refine wpOp_go (by rfl) (Eq.refl _) (by go_simp; done) ?_
        intro K hK
        go_simp
        try simp only [Act.put]
        refine hK _ _ (And.intro (Below.set13 hS_wz.1 HGR.out (.slice (some ⟨g4, 0, none⟩) 4 4) (.string ⟨#[99]⟩) (.slice none 0 0) (.slice (some ⟨g9, 0, none⟩) 2 2) (.int .i64 1000) (.slice (some ⟨gc, 0, none⟩) 1 1) (.int .i64 0) (.int .i64 20) (.int .i64 0) (.int .i64 10) (.int .i64 0) (.int .i64 60) (.slice (some ⟨gd, 0, none⟩) 2 2)) (Blk.far13 hS_wz.2 (Blk.ne_ hS_wz.2 br (by decide)) (.slice (some ⟨g4, 0, none⟩) 4 4) (.string ⟨#[99]⟩) (.slice none 0 0) (.slice (some ⟨g9, 0, none⟩) 2 2) (.int .i64 1000) (.slice (some ⟨gc, 0, none⟩) 1 1) (.int .i64 0) (.int .i64 20) (.int .i64 0) (.int .i64 10) (.int .i64 0) (.int .i64 60) (.slice (some ⟨gd, 0, none⟩) 2 2))) ?_
        clear hK K z0 z1 z2 z3 z4 z5 z6 z7 z8 z9 z10 z11 z12 zf lr
        refine wpW_end (by kernel_rfl) ?_
        intro we hg hS
        unfold NQ
        dsimp only
        exact H.out _ _ _ _ _ _ _ _ _ _ _ _ _ _ _ _ _ _ _ _ we (HOK.out (Blk.gr (b4.far13 (Blk.ne_ b4 br (by decide)) (.slice (some ⟨g4, 0, none⟩) 4 4) (.string ⟨#[99]⟩) (.slice none 0 0) (.slice (some ⟨g9, 0, none⟩) 2 2) (.int .i64 1000) (.slice (some ⟨gc, 0, none⟩) 1 1) (.int .i64 0) (.int .i64 20) (.int .i64 0) (.int .i64 10) (.int .i64 0) (.int .i64 60) (.slice (some ⟨gd, 0, none⟩) 2 2)) hg) (Blk.gr (b9.far13 (Blk.ne_ b9 br (by decide)) (.slice (some ⟨g4, 0, none⟩) 4 4) (.string ⟨#[99]⟩) (.slice none 0 0) (.slice (some ⟨g9, 0, none⟩) 2 2) (.int .i64 1000) (.slice (some ⟨gc, 0, none⟩) 1 1) (.int .i64 0) (.int .i64 20) (.int .i64 0) (.int .i64 10) (.int .i64 0) (.int .i64 60) (.slice (some ⟨gd, 0, none⟩) 2 2)) hg) (Blk.gr (bc.far13 (Blk.ne_ bc br (by decide)) (.slice (some ⟨g4, 0, none⟩) 4 4) (.string ⟨#[99]⟩) (.slice none 0 0) (.slice (some ⟨g9, 0, none⟩) 2 2) (.int .i64 1000) (.slice (some ⟨gc, 0, none⟩) 1 1) (.int .i64 0) (.int .i64 20) (.int .i64 0) (.int .i64 10) (.int .i64 0) (.int .i64 60) (.slice (some ⟨gd, 0, none⟩) 2 2)) hg) (Blk.gr (bd.far13 (Blk.ne_ bd br (by decide)) (.slice (some ⟨g4, 0, none⟩) 4 4) (.string ⟨#[99]⟩) (.slice none 0 0) (.slice (some ⟨g9, 0, none⟩) 2 2) (.int .i64 1000) (.slice (some ⟨gc, 0, none⟩) 1 1) (.int .i64 0) (.int .i64 20) (.int .i64 0) (.int .i64 10) (.int .i64 0) (.int .i64 60) (.slice (some ⟨gd, 0, none⟩) 2 2)) hg)) (Blk.gr (br.set13 (.slice (some ⟨g4, 0, none⟩) 4 4) (.string ⟨#[99]⟩) (.slice none 0 0) (.slice (some ⟨g9, 0, none⟩) 2 2) (.int .i64 1000) (.slice (some ⟨gc, 0, none⟩) 1 1) (.int .i64 0) (.int .i64 20) (.int .i64 0) (.int .i64 10) (.int .i64 0) (.int .i64 60) (.slice (some ⟨gd, 0, none⟩) 2 2)) hg) hS.1
    · refine wpOp_go (by rfl) (Eq.refl _) (by go_simp; done) ?_
      intro K hK
      go_simp
      try simp only [Act.put]
      have bd := Blk.new w2 111 #[.int .i64 100, .int .i64 5, .int .i64 900, .int .i64 12]
      have hal : Gr w2 (w2.alloc (.cells #[.int .i64 100, .int .i64 5, .int .i64 900, .int .i64 12] 111)) := (Below.refl _ _).alloc (Nat.le_refl _) _
      replace z := And.intro (Below.trans z.1 (Below.mono hal (Below.size z.1))) (Blk.gr z.2 hal)
      replace br := Blk.gr br hal
      try replace b4 := Blk.gr b4 hal
      try replace b9 := Blk.gr b9 hal
      try replace bc := Blk.gr bc hal
      clear hal
      generalize w2.heap.size = gd at *
      refine hK _ _ z ?_
      clear hK K
      refine wpW_branch [9, 12] (by kernel_rfl) (by simp) ?_
      intro w3 hg3 hS3
      try clear z
      have z := hS3
      replace br := Blk.gr br hg3
      replace b4 := Blk.gr b4 hg3
      replace bd := Blk.gr bd hg3
      refine each_cons ?_ (each_cons ?_ (each_nil))
      · refine wpOp_go (by rfl) (Eq.refl _) (by go_simp; done) ?_
        intro K hK
        go_simp
        try simp only [Act.put]
        have b9 := Blk.new w3 106 #[.int .i64 (weldLow 0), .int .i64 (weldLow 1), .int .i64 (weldLow 2), .int .i64 (weldLow 3), .int .i64 (weldLow 4), .int .i64 (weldLow 5), .int .i64 (weldLow 6), .int .i64 (weldLow 7), .int .i64 (weldLow 8), .int .i64 (weldLow 9), .int .i64 (weldLow 10), .int .i64 (weldLow 11), .int .i64 0, .int .i64 (weldTop 0), .int .i64 (weldTop 1), .int .i64 (weldTop 2), .int .i64 (weldTop 3), .int .i64 (weldTop 4), .int .i64 (weldTop 5), .int .i64 (weldTop 6), .int .i64 (weldTop 7), .int .i64 (weldTop 8), .int .i64 (weldTop 9), .int .i64 (weldTop 10), .int .i64 (weldTop 11), .int .i64 1]
        have hal : Gr w3 (w3.alloc (.cells #[.int .i64 (weldLow 0), .int .i64 (weldLow 1), .int .i64 (weldLow 2), .int .i64 (weldLow 3), .int .i64 (weldLow 4), .int .i64 (weldLow 5), .int .i64 (weldLow 6), .int .i64 (weldLow 7), .int .i64 (weldLow 8), .int .i64 (weldLow 9), .int .i64 (weldLow 10), .int .i64 (weldLow 11), .int .i64 0, .int .i64 (weldTop 0), .int .i64 (weldTop 1), .int .i64 (weldTop 2), .int .i64 (weldTop 3), .int .i64 (weldTop 4), .int .i64 (weldTop 5), .int .i64 (weldTop 6), .int .i64 (weldTop 7), .int .i64 (weldTop 8), .int .i64 (weldTop 9), .int .i64 (weldTop 10), .int .i64 (weldTop 11), .int .i64 1] 106)) := (Below.refl _ _).alloc (Nat.le_refl _) _
        replace z := And.intro (Below.trans z.1 (Below.mono hal (Below.size z.1))) (Blk.gr z.2 hal)
        replace br := Blk.gr br hal
        try replace b4 := Blk.gr b4 hal
        try replace bc := Blk.gr bc hal
        try replace bd := Blk.gr bd hal
        clear hal
        generalize w3.heap.size = g9 at *
        refine hK _ _ z ?_
        clear hK K
        refine wpW_det (t' := ?ct10R36) 10 (by rfl) (by kernel_rfl) (NQ_free _) (by kernel_rfl) ?cw10R36 ?ch10R36 ?ca10R36 (Eq.refl _) ?cH10R36
        case cw10R36 => (go_simp; done)
        case ch10R36 =>
          intro ds w' hS K hK
          go_simp
          try go_bits
          exact hK _ hS (Gr.refl _)
        case ca10R36 => (first | (simp [Act.put]; done) | (simp [Act.put, *]; done))
        try dsimp only
        refine wpW_branch [12] (by kernel_rfl) (by simp) ?_
        intro w4 hg4 hS4
        try clear z
        have z := hS4
        replace br := Blk.gr br hg4
        replace b4 := Blk.gr b4 hg4
        replace b9 := Blk.gr b9 hg4
        replace bd := Blk.gr bd hg4
        refine each_cons ?_ (each_nil)
        refine wpOp_go (by rfl) (Eq.refl _) (by go_simp; done) ?_
        intro K hK
        go_simp
        try simp only [Act.put]
        have bc := Blk.new w4 109 #[.string ⟨#[103, 97, 105, 110]⟩, .int .i64 100, .int .i64 50, .slice none 0 0]
        have hal : Gr w4 (w4.alloc (.cells #[.string ⟨#[103, 97, 105, 110]⟩, .int .i64 100, .int .i64 50, .slice none 0 0] 109)) := (Below.refl _ _).alloc (Nat.le_refl _) _
        replace z := And.intro (Below.trans z.1 (Below.mono hal (Below.size z.1))) (Blk.gr z.2 hal)
        replace br := Blk.gr br hal
        try replace b4 := Blk.gr b4 hal
        try replace b9 := Blk.gr b9 hal
        try replace bd := Blk.gr bd hal
        clear hal
        generalize w4.heap.size = gc at *
        refine hK _ _ z ?_
        clear hK K
        refine wpW_det (t' := ?ct18R37) 18 (by rfl) (by kernel_rfl) (NQ_free _) (by kernel_rfl) ?cw18R37 ?ch18R37 ?ca18R37 (Eq.refl _) ?cH18R37
        case cw18R37 => (go_simp; done)
        case ch18R37 =>
          intro ds w' hS K hK
          go_simp
          try go_bits
          exact hK _ hS (Gr.refl _)
        case ca18R37 => (first | (simp [Act.put]; done) | (simp [Act.put, *]; done))
        try dsimp only
        refine wpW_branch [19] (by kernel_rfl) (by simp) ?_
        intro wz hg_wz hS_wz
        replace br := Blk.gr br hg_wz
        replace b4 := Blk.gr b4 hg_wz
        replace b9 := Blk.gr b9 hg_wz
        replace bc := Blk.gr bc hg_wz
        replace bd := Blk.gr bd hg_wz
        obtain ⟨z0, z1, z2, z3, z4, z5, z6, z7, z8, z9, z10, z11, z12, zf⟩ := blk13 br
        have lr := br.lt
        refine each_cons ?_ each_nil
        refine wpOp_go (by rfl) (Eq.refl _) (by go_simp; done) ?_
        intro K hK
        go_simp
        try simp only [Act.put]
        refine hK _ _ (And.intro (Below.set13 hS_wz.1 HGR.out (.slice (some ⟨g4, 0, none⟩) 4 4) (.string ⟨#[99]⟩) (.slice none 0 0) (.slice (some ⟨g9, 0, none⟩) 2 2) (.int .i64 1000) (.slice (some ⟨gc, 0, none⟩) 1 1) (.int .i64 0) (.int .i64 20) (.int .i64 0) (.int .i64 10) (.int .i64 0) (.int .i64 60) (.slice (some ⟨gd, 0, none⟩) 2 2)) (Blk.far13 hS_wz.2 (Blk.ne_ hS_wz.2 br (by decide)) (.slice (some ⟨g4, 0, none⟩) 4 4) (.string ⟨#[99]⟩) (.slice none 0 0) (.slice (some ⟨g9, 0, none⟩) 2 2) (.int .i64 1000) (.slice (some ⟨gc, 0, none⟩) 1 1) (.int .i64 0) (.int .i64 20) (.int .i64 0) (.int .i64 10) (.int .i64 0) (.int .i64 60) (.slice (some ⟨gd, 0, none⟩) 2 2))) ?_
        clear hK K z0 z1 z2 z3 z4 z5 z6 z7 z8 z9 z10 z11 z12 zf lr
        refine wpW_end (by kernel_rfl) ?_
        intro we hg hS
        unfold NQ
        dsimp only
        exact H.out _ _ _ _ _ _ _ _ _ _ _ _ _ _ _ _ _ _ _ _ we (HOK.out (Blk.gr (b4.far13 (Blk.ne_ b4 br (by decide)) (.slice (some ⟨g4, 0, none⟩) 4 4) (.string ⟨#[99]⟩) (.slice none 0 0) (.slice (some ⟨g9, 0, none⟩) 2 2) (.int .i64 1000) (.slice (some ⟨gc, 0, none⟩) 1 1) (.int .i64 0) (.int .i64 20) (.int .i64 0) (.int .i64 10) (.int .i64 0) (.int .i64 60) (.slice (some ⟨gd, 0, none⟩) 2 2)) hg) (Blk.gr (b9.far13 (Blk.ne_ b9 br (by decide)) (.slice (some ⟨g4, 0, none⟩) 4 4) (.string ⟨#[99]⟩) (.slice none 0 0) (.slice (some ⟨g9, 0, none⟩) 2 2) (.int .i64 1000) (.slice (some ⟨gc, 0, none⟩) 1 1) (.int .i64 0) (.int .i64 20) (.int .i64 0) (.int .i64 10) (.int .i64 0) (.int .i64 60) (.slice (some ⟨gd, 0, none⟩) 2 2)) hg) (Blk.gr (bc.far13 (Blk.ne_ bc br (by decide)) (.slice (some ⟨g4, 0, none⟩) 4 4) (.string ⟨#[99]⟩) (.slice none 0 0) (.slice (some ⟨g9, 0, none⟩) 2 2) (.int .i64 1000) (.slice (some ⟨gc, 0, none⟩) 1 1) (.int .i64 0) (.int .i64 20) (.int .i64 0) (.int .i64 10) (.int .i64 0) (.int .i64 60) (.slice (some ⟨gd, 0, none⟩) 2 2)) hg) (Blk.gr (bd.far13 (Blk.ne_ bd br (by decide)) (.slice (some ⟨g4, 0, none⟩) 4 4) (.string ⟨#[99]⟩) (.slice none 0 0) (.slice (some ⟨g9, 0, none⟩) 2 2) (.int .i64 1000) (.slice (some ⟨gc, 0, none⟩) 1 1) (.int .i64 0) (.int .i64 20) (.int .i64 0) (.int .i64 10) (.int .i64 0) (.int .i64 60) (.slice (some ⟨gd, 0, none⟩) 2 2)) hg)) (Blk.gr (br.set13 (.slice (some ⟨g4, 0, none⟩) 4 4) (.string ⟨#[99]⟩) (.slice none 0 0) (.slice (some ⟨g9, 0, none⟩) 2 2) (.int .i64 1000) (.slice (some ⟨gc, 0, none⟩) 1 1) (.int .i64 0) (.int .i64 20) (.int .i64 0) (.int .i64 10) (.int .i64 0) (.int .i64 60) (.slice (some ⟨gd, 0, none⟩) 2 2)) hg) hS.1
      · refine wpOp_go (by rfl) (Eq.refl _) (by go_simp; done) ?_
        intro K hK
        go_simp
        try simp only [Act.put]
        have bc := Blk.new w3 109 #[.string ⟨#[103, 97, 105, 110]⟩, .int .i64 100, .int .i64 50, .slice none 0 0]
        have hal : Gr w3 (w3.alloc (.cells #[.string ⟨#[103, 97, 105, 110]⟩, .int .i64 100, .int .i64 50, .slice none 0 0] 109)) := (Below.refl _ _).alloc (Nat.le_refl _) _
        replace z := And.intro (Below.trans z.1 (Below.mono hal (Below.size z.1))) (Blk.gr z.2 hal)
        replace br := Blk.gr br hal
        try replace b4 := Blk.gr b4 hal
        try replace b9 := Blk.gr b9 hal
        try replace bd := Blk.gr bd hal
        clear hal
        generalize w3.heap.size = gc at *
        refine hK _ _ z ?_
        clear hK K
        refine wpW_branch [9] (by kernel_rfl) (by simp) ?_
        intro w4 hg4 hS4
        try clear z
        have z := hS4
        replace br := Blk.gr br hg4
        replace b4 := Blk.gr b4 hg4
        replace bc := Blk.gr bc hg4
        replace bd := Blk.gr bd hg4
        refine each_cons ?_ (each_nil)
        refine wpOp_go (by rfl) (Eq.refl _) (by go_simp; done) ?_
        intro K hK
        go_simp
        try simp only [Act.put]
        have b9 := Blk.new w4 106 #[.int .i64 (weldLow 0), .int .i64 (weldLow 1), .int .i64 (weldLow 2), .int .i64 (weldLow 3), .int .i64 (weldLow 4), .int .i64 (weldLow 5), .int .i64 (weldLow 6), .int .i64 (weldLow 7), .int .i64 (weldLow 8), .int .i64 (weldLow 9), .int .i64 (weldLow 10), .int .i64 (weldLow 11), .int .i64 0, .int .i64 (weldTop 0), .int .i64 (weldTop 1), .int .i64 (weldTop 2), .int .i64 (weldTop 3), .int .i64 (weldTop 4), .int .i64 (weldTop 5), .int .i64 (weldTop 6), .int .i64 (weldTop 7), .int .i64 (weldTop 8), .int .i64 (weldTop 9), .int .i64 (weldTop 10), .int .i64 (weldTop 11), .int .i64 1]
        have hal : Gr w4 (w4.alloc (.cells #[.int .i64 (weldLow 0), .int .i64 (weldLow 1), .int .i64 (weldLow 2), .int .i64 (weldLow 3), .int .i64 (weldLow 4), .int .i64 (weldLow 5), .int .i64 (weldLow 6), .int .i64 (weldLow 7), .int .i64 (weldLow 8), .int .i64 (weldLow 9), .int .i64 (weldLow 10), .int .i64 (weldLow 11), .int .i64 0, .int .i64 (weldTop 0), .int .i64 (weldTop 1), .int .i64 (weldTop 2), .int .i64 (weldTop 3), .int .i64 (weldTop 4), .int .i64 (weldTop 5), .int .i64 (weldTop 6), .int .i64 (weldTop 7), .int .i64 (weldTop 8), .int .i64 (weldTop 9), .int .i64 (weldTop 10), .int .i64 (weldTop 11), .int .i64 1] 106)) := (Below.refl _ _).alloc (Nat.le_refl _) _
        replace z := And.intro (Below.trans z.1 (Below.mono hal (Below.size z.1))) (Blk.gr z.2 hal)
        replace br := Blk.gr br hal
        try replace b4 := Blk.gr b4 hal
        try replace bc := Blk.gr bc hal
        try replace bd := Blk.gr bd hal
        clear hal
        generalize w4.heap.size = g9 at *
        refine hK _ _ z ?_
        clear hK K
        refine wpW_det (t' := ?ct10R38) 10 (by rfl) (by kernel_rfl) (NQ_free _) (by kernel_rfl) ?cw10R38 ?ch10R38 ?ca10R38 (Eq.refl _) ?cH10R38
        case cw10R38 => (go_simp; done)
        case ch10R38 =>
          intro ds w' hS K hK
          go_simp
          try go_bits
          exact hK _ hS (Gr.refl _)
        case ca10R38 => (first | (simp [Act.put]; done) | (simp [Act.put, *]; done))
        try dsimp only
        refine wpW_det (t' := ?ct18R39) 18 (by rfl) (by kernel_rfl) (NQ_free _) (by kernel_rfl) ?cw18R39 ?ch18R39 ?ca18R39 (Eq.refl _) ?cH18R39
        case cw18R39 => (go_simp; done)
        case ch18R39 =>
          intro ds w' hS K hK
          go_simp
          try go_bits
          exact hK _ hS (Gr.refl _)
        case ca18R39 => (first | (simp [Act.put]; done) | (simp [Act.put, *]; done))
        try dsimp only
        refine wpW_branch [19] (by kernel_rfl) (by simp) ?_
        intro wz hg_wz hS_wz
        replace br := Blk.gr br hg_wz
        replace b4 := Blk.gr b4 hg_wz
        replace b9 := Blk.gr b9 hg_wz
        replace bc := Blk.gr bc hg_wz
        replace bd := Blk.gr bd hg_wz
        obtain ⟨z0, z1, z2, z3, z4, z5, z6, z7, z8, z9, z10, z11, z12, zf⟩ := blk13 br
        have lr := br.lt
        refine each_cons ?_ each_nil
        refine wpOp_go (by rfl) (Eq.refl _) (by go_simp; done) ?_
        intro K hK
        go_simp
        try simp only [Act.put]
        refine hK _ _ (And.intro (Below.set13 hS_wz.1 HGR.out (.slice (some ⟨g4, 0, none⟩) 4 4) (.string ⟨#[99]⟩) (.slice none 0 0) (.slice (some ⟨g9, 0, none⟩) 2 2) (.int .i64 1000) (.slice (some ⟨gc, 0, none⟩) 1 1) (.int .i64 0) (.int .i64 20) (.int .i64 0) (.int .i64 10) (.int .i64 0) (.int .i64 60) (.slice (some ⟨gd, 0, none⟩) 2 2)) (Blk.far13 hS_wz.2 (Blk.ne_ hS_wz.2 br (by decide)) (.slice (some ⟨g4, 0, none⟩) 4 4) (.string ⟨#[99]⟩) (.slice none 0 0) (.slice (some ⟨g9, 0, none⟩) 2 2) (.int .i64 1000) (.slice (some ⟨gc, 0, none⟩) 1 1) (.int .i64 0) (.int .i64 20) (.int .i64 0) (.int .i64 10) (.int .i64 0) (.int .i64 60) (.slice (some ⟨gd, 0, none⟩) 2 2))) ?_
        clear hK K z0 z1 z2 z3 z4 z5 z6 z7 z8 z9 z10 z11 z12 zf lr
        refine wpW_end (by kernel_rfl) ?_
        intro we hg hS
        unfold NQ
        dsimp only
        exact H.out _ _ _ _ _ _ _ _ _ _ _ _ _ _ _ _ _ _ _ _ we (HOK.out (Blk.gr (b4.far13 (Blk.ne_ b4 br (by decide)) (.slice (some ⟨g4, 0, none⟩) 4 4) (.string ⟨#[99]⟩) (.slice none 0 0) (.slice (some ⟨g9, 0, none⟩) 2 2) (.int .i64 1000) (.slice (some ⟨gc, 0, none⟩) 1 1) (.int .i64 0) (.int .i64 20) (.int .i64 0) (.int .i64 10) (.int .i64 0) (.int .i64 60) (.slice (some ⟨gd, 0, none⟩) 2 2)) hg) (Blk.gr (b9.far13 (Blk.ne_ b9 br (by decide)) (.slice (some ⟨g4, 0, none⟩) 4 4) (.string ⟨#[99]⟩) (.slice none 0 0) (.slice (some ⟨g9, 0, none⟩) 2 2) (.int .i64 1000) (.slice (some ⟨gc, 0, none⟩) 1 1) (.int .i64 0) (.int .i64 20) (.int .i64 0) (.int .i64 10) (.int .i64 0) (.int .i64 60) (.slice (some ⟨gd, 0, none⟩) 2 2)) hg) (Blk.gr (bc.far13 (Blk.ne_ bc br (by decide)) (.slice (some ⟨g4, 0, none⟩) 4 4) (.string ⟨#[99]⟩) (.slice none 0 0) (.slice (some ⟨g9, 0, none⟩) 2 2) (.int .i64 1000) (.slice (some ⟨gc, 0, none⟩) 1 1) (.int .i64 0) (.int .i64 20) (.int .i64 0) (.int .i64 10) (.int .i64 0) (.int .i64 60) (.slice (some ⟨gd, 0, none⟩) 2 2)) hg) (Blk.gr (bd.far13 (Blk.ne_ bd br (by decide)) (.slice (some ⟨g4, 0, none⟩) 4 4) (.string ⟨#[99]⟩) (.slice none 0 0) (.slice (some ⟨g9, 0, none⟩) 2 2) (.int .i64 1000) (.slice (some ⟨gc, 0, none⟩) 1 1) (.int .i64 0) (.int .i64 20) (.int .i64 0) (.int .i64 10) (.int .i64 0) (.int .i64 60) (.slice (some ⟨gd, 0, none⟩) 2 2)) hg)) (Blk.gr (br.set13 (.slice (some ⟨g4, 0, none⟩) 4 4) (.string ⟨#[99]⟩) (.slice none 0 0) (.slice (some ⟨g9, 0, none⟩) 2 2) (.int .i64 1000) (.slice (some ⟨gc, 0, none⟩) 1 1) (.int .i64 0) (.int .i64 20) (.int .i64 0) (.int .i64 10) (.int .i64 0) (.int .i64 60) (.slice (some ⟨gd, 0, none⟩) 2 2)) hg) hS.1
  · refine wpOp_go (by rfl) (Eq.refl _) (by go_simp; done) ?_
    intro K hK
    go_simp
    try simp only [Act.put]
    have b9 := Blk.new w1 106 #[.int .i64 (weldLow 0), .int .i64 (weldLow 1), .int .i64 (weldLow 2), .int .i64 (weldLow 3), .int .i64 (weldLow 4), .int .i64 (weldLow 5), .int .i64 (weldLow 6), .int .i64 (weldLow 7), .int .i64 (weldLow 8), .int .i64 (weldLow 9), .int .i64 (weldLow 10), .int .i64 (weldLow 11), .int .i64 0, .int .i64 (weldTop 0), .int .i64 (weldTop 1), .int .i64 (weldTop 2), .int .i64 (weldTop 3), .int .i64 (weldTop 4), .int .i64 (weldTop 5), .int .i64 (weldTop 6), .int .i64 (weldTop 7), .int .i64 (weldTop 8), .int .i64 (weldTop 9), .int .i64 (weldTop 10), .int .i64 (weldTop 11), .int .i64 1]
    have hal : Gr w1 (w1.alloc (.cells #[.int .i64 (weldLow 0), .int .i64 (weldLow 1), .int .i64 (weldLow 2), .int .i64 (weldLow 3), .int .i64 (weldLow 4), .int .i64 (weldLow 5), .int .i64 (weldLow 6), .int .i64 (weldLow 7), .int .i64 (weldLow 8), .int .i64 (weldLow 9), .int .i64 (weldLow 10), .int .i64 (weldLow 11), .int .i64 0, .int .i64 (weldTop 0), .int .i64 (weldTop 1), .int .i64 (weldTop 2), .int .i64 (weldTop 3), .int .i64 (weldTop 4), .int .i64 (weldTop 5), .int .i64 (weldTop 6), .int .i64 (weldTop 7), .int .i64 (weldTop 8), .int .i64 (weldTop 9), .int .i64 (weldTop 10), .int .i64 (weldTop 11), .int .i64 1] 106)) := (Below.refl _ _).alloc (Nat.le_refl _) _
    replace z := And.intro (Below.trans z.1 (Below.mono hal (Below.size z.1))) (Blk.gr z.2 hal)
    replace br := Blk.gr br hal
    try replace b4 := Blk.gr b4 hal
    try replace bc := Blk.gr bc hal
    try replace bd := Blk.gr bd hal
    clear hal
    generalize w1.heap.size = g9 at *
    refine hK _ _ z ?_
    clear hK K
    refine wpW_det (t' := ?ct10R40) 10 (by rfl) (by kernel_rfl) (NQ_free _) (by kernel_rfl) ?cw10R40 ?ch10R40 ?ca10R40 (Eq.refl _) ?cH10R40
    case cw10R40 => (go_simp; done)
    case ch10R40 =>
      intro ds w' hS K hK
      go_simp
      try go_bits
      exact hK _ hS (Gr.refl _)
    case ca10R40 => (first | (simp [Act.put]; done) | (simp [Act.put, *]; done))
    try dsimp only
    refine wpW_branch [4, 12, 17] (by kernel_rfl) (by simp) ?_
    intro w2 hg2 hS2
    try clear z
    have z := hS2
    replace br := Blk.gr br hg2
    replace b9 := Blk.gr b9 hg2
    refine each_cons ?_ (each_cons ?_ (each_cons ?_ (each_nil)))
    · refine wpOp_go (by rfl) (Eq.refl _) (by go_simp; done) ?_
      intro K hK
      go_simp
      try simp only [Act.put]
      have b4 := Blk.new w2 104 #[.string ⟨#[97, 110, 110]⟩, .int .i64 1, .string ⟨#[98, 111, 98]⟩, .int .i64 2, .string ⟨#[99, 105, 100]⟩, .int .i64 2, .string ⟨#[100, 111, 114, 97]⟩, .int .i64 3]
      have hal : Gr w2 (w2.alloc (.cells #[.string ⟨#[97, 110, 110]⟩, .int .i64 1, .string ⟨#[98, 111, 98]⟩, .int .i64 2, .string ⟨#[99, 105, 100]⟩, .int .i64 2, .string ⟨#[100, 111, 114, 97]⟩, .int .i64 3] 104)) := (Below.refl _ _).alloc (Nat.le_refl _) _
      replace z := And.intro (Below.trans z.1 (Below.mono hal (Below.size z.1))) (Blk.gr z.2 hal)
      replace br := Blk.gr br hal
      try replace b9 := Blk.gr b9 hal
      try replace bc := Blk.gr bc hal
      try replace bd := Blk.gr bd hal
      clear hal
      generalize w2.heap.size = g4 at *
      refine hK _ _ z ?_
      clear hK K
      refine wpW_branch [12, 17] (by kernel_rfl) (by simp) ?_
      intro w3 hg3 hS3
      try clear z
      have z := hS3
      replace br := Blk.gr br hg3
      replace b4 := Blk.gr b4 hg3
      replace b9 := Blk.gr b9 hg3
      refine each_cons ?_ (each_cons ?_ (each_nil))
      · refine wpOp_go (by rfl) (Eq.refl _) (by go_simp; done) ?_
        intro K hK
        go_simp
        try simp only [Act.put]
        have bc := Blk.new w3 109 #[.string ⟨#[103, 97, 105, 110]⟩, .int .i64 100, .int .i64 50, .slice none 0 0]
        have hal : Gr w3 (w3.alloc (.cells #[.string ⟨#[103, 97, 105, 110]⟩, .int .i64 100, .int .i64 50, .slice none 0 0] 109)) := (Below.refl _ _).alloc (Nat.le_refl _) _
        replace z := And.intro (Below.trans z.1 (Below.mono hal (Below.size z.1))) (Blk.gr z.2 hal)
        replace br := Blk.gr br hal
        try replace b4 := Blk.gr b4 hal
        try replace b9 := Blk.gr b9 hal
        try replace bd := Blk.gr bd hal
        clear hal
        generalize w3.heap.size = gc at *
        refine hK _ _ z ?_
        clear hK K
        refine wpW_branch [17] (by kernel_rfl) (by simp) ?_
        intro w4 hg4 hS4
        try clear z
        have z := hS4
        replace br := Blk.gr br hg4
        replace b4 := Blk.gr b4 hg4
        replace b9 := Blk.gr b9 hg4
        replace bc := Blk.gr bc hg4
        refine each_cons ?_ (each_nil)
        refine wpOp_go (by rfl) (Eq.refl _) (by go_simp; done) ?_
        intro K hK
        go_simp
        try simp only [Act.put]
        have bd := Blk.new w4 111 #[.int .i64 100, .int .i64 5, .int .i64 900, .int .i64 12]
        have hal : Gr w4 (w4.alloc (.cells #[.int .i64 100, .int .i64 5, .int .i64 900, .int .i64 12] 111)) := (Below.refl _ _).alloc (Nat.le_refl _) _
        replace z := And.intro (Below.trans z.1 (Below.mono hal (Below.size z.1))) (Blk.gr z.2 hal)
        replace br := Blk.gr br hal
        try replace b4 := Blk.gr b4 hal
        try replace b9 := Blk.gr b9 hal
        try replace bc := Blk.gr bc hal
        clear hal
        generalize w4.heap.size = gd at *
        refine hK _ _ z ?_
        clear hK K
        refine wpW_det (t' := ?ct18R41) 18 (by rfl) (by kernel_rfl) (NQ_free _) (by kernel_rfl) ?cw18R41 ?ch18R41 ?ca18R41 (Eq.refl _) ?cH18R41
        case cw18R41 => (go_simp; done)
        case ch18R41 =>
          intro ds w' hS K hK
          go_simp
          try go_bits
          exact hK _ hS (Gr.refl _)
        case ca18R41 => (first | (simp [Act.put]; done) | (simp [Act.put, *]; done))
        try dsimp only
        refine wpW_branch [19] (by kernel_rfl) (by simp) ?_
        intro wz hg_wz hS_wz
        replace br := Blk.gr br hg_wz
        replace b4 := Blk.gr b4 hg_wz
        replace b9 := Blk.gr b9 hg_wz
        replace bc := Blk.gr bc hg_wz
        replace bd := Blk.gr bd hg_wz
        obtain ⟨z0, z1, z2, z3, z4, z5, z6, z7, z8, z9, z10, z11, z12, zf⟩ := blk13 br
        have lr := br.lt
        refine each_cons ?_ each_nil
        refine wpOp_go (by rfl) (Eq.refl _) (by go_simp; done) ?_
        intro K hK
        go_simp
        try simp only [Act.put]
        refine hK _ _ (And.intro (Below.set13 hS_wz.1 HGR.out (.slice (some ⟨g4, 0, none⟩) 4 4) (.string ⟨#[99]⟩) (.slice none 0 0) (.slice (some ⟨g9, 0, none⟩) 2 2) (.int .i64 1000) (.slice (some ⟨gc, 0, none⟩) 1 1) (.int .i64 0) (.int .i64 20) (.int .i64 0) (.int .i64 10) (.int .i64 0) (.int .i64 60) (.slice (some ⟨gd, 0, none⟩) 2 2)) (Blk.far13 hS_wz.2 (Blk.ne_ hS_wz.2 br (by decide)) (.slice (some ⟨g4, 0, none⟩) 4 4) (.string ⟨#[99]⟩) (.slice none 0 0) (.slice (some ⟨g9, 0, none⟩) 2 2) (.int .i64 1000) (.slice (some ⟨gc, 0, none⟩) 1 1) (.int .i64 0) (.int .i64 20) (.int .i64 0) (.int .i64 10) (.int .i64 0) (.int .i64 60) (.slice (some ⟨gd, 0, none⟩) 2 2))) ?_
        clear hK K z0 z1 z2 z3 z4 z5 z6 z7 z8 z9 z10 z11 z12 zf lr
        refine wpW_end (by kernel_rfl) ?_
        intro we hg hS
        unfold NQ
        dsimp only
        exact H.out _ _ _ _ _ _ _ _ _ _ _ _ _ _ _ _ _ _ _ _ we (HOK.out (Blk.gr (b4.far13 (Blk.ne_ b4 br (by decide)) (.slice (some ⟨g4, 0, none⟩) 4 4) (.string ⟨#[99]⟩) (.slice none 0 0) (.slice (some ⟨g9, 0, none⟩) 2 2) (.int .i64 1000) (.slice (some ⟨gc, 0, none⟩) 1 1) (.int .i64 0) (.int .i64 20) (.int .i64 0) (.int .i64 10) (.int .i64 0) (.int .i64 60) (.slice (some ⟨gd, 0, none⟩) 2 2)) hg) (Blk.gr (b9.far13 (Blk.ne_ b9 br (by decide)) (.slice (some ⟨g4, 0, none⟩) 4 4) (.string ⟨#[99]⟩) (.slice none 0 0) (.slice (some ⟨g9, 0, none⟩) 2 2) (.int .i64 1000) (.slice (some ⟨gc, 0, none⟩) 1 1) (.int .i64 0) (.int .i64 20) (.int .i64 0) (.int .i64 10) (.int .i64 0) (.int .i64 60) (.slice (some ⟨gd, 0, none⟩) 2 2)) hg) (Blk.gr (bc.far13 (Blk.ne_ bc br (by decide)) (.slice (some ⟨g4, 0, none⟩) 4 4) (.string ⟨#[99]⟩) (.slice none 0 0) (.slice (some ⟨g9, 0, none⟩) 2 2) (.int .i64 1000) (.slice (some ⟨gc, 0, none⟩) 1 1) (.int .i64 0) (.int .i64 20) (.int .i64 0) (.int .i64 10) (.int .i64 0) (.int .i64 60) (.slice (some ⟨gd, 0, none⟩) 2 2)) hg) (Blk.gr (bd.far13 (Blk.ne_ bd br (by decide)) (.slice (some ⟨g4, 0, none⟩) 4 4) (.string ⟨#[99]⟩) (.slice none 0 0) (.slice (some ⟨g9, 0, none⟩) 2 2) (.int .i64 1000) (.slice (some ⟨gc, 0, none⟩) 1 1) (.int .i64 0) (.int .i64 20) (.int .i64 0) (.int .i64 10) (.int .i64 0) (.int .i64 60) (.slice (some ⟨gd, 0, none⟩) 2 2)) hg)) (Blk.gr (br.set13 (.slice (some ⟨g4, 0, none⟩) 4 4) (.string ⟨#[99]⟩) (.slice none 0 0) (.slice (some ⟨g9, 0, none⟩) 2 2) (.int .i64 1000) (.slice (some ⟨gc, 0, none⟩) 1 1) (.int .i64 0) (.int .i64 20) (.int .i64 0) (.int .i64 10) (.int .i64 0) (.int .i64 60) (.slice (some ⟨gd, 0, none⟩) 2 2)) hg) hS.1
      · refine wpOp_go (by rfl) (Eq.refl _) (by go_simp; done) ?_
        intro K hK
        go_simp
        try simp only [Act.put]
        have bd := Blk.new w3 111 #[.int .i64 100, .int .i64 5, .int .i64 900, .int .i64 12]
        have hal : Gr w3 (w3.alloc (.cells #[.int .i64 100, .int .i64 5, .int .i64 900, .int .i64 12] 111)) := (Below.refl _ _).alloc (Nat.le_refl _) _
        replace z := And.intro (Below.trans z.1 (Below.mono hal (Below.size z.1))) (Blk.gr z.2 hal)
        replace br := Blk.gr br hal
        try replace b4 := Blk.gr b4 hal
        try replace b9 := Blk.gr b9 hal
        try replace bc := Blk.gr bc hal
        clear hal
        generalize w3.heap.size = gd at *
        refine hK _ _ z ?_
        clear hK K
        refine wpW_branch [12] (by kernel_rfl) (by simp) ?_
        intro w4 hg4 hS4
        try clear z
        have z := hS4
        replace br := Blk.gr br hg4
        replace b4 := Blk.gr b4 hg4
        replace b9 := Blk.gr b9 hg4
        replace bd := Blk.gr bd hg4
        refine each_cons ?_ (each_nil)
        refine wpOp_go (by rfl) (Eq.refl _) (by go_simp; done) ?_
        intro K hK
        go_simp
        try simp only [Act.put]
        have bc := Blk.new w4 109 #[.string ⟨#[103, 97, 105, 110]⟩, .int .i64 100, .int .i64 50, .slice none 0 0]
        have hal : Gr w4 (w4.alloc (.cells #[.string ⟨#[103, 97, 105, 110]⟩, .int .i64 100, .int .i64 50, .slice none 0 0] 109)) := (Below.refl _ _).alloc (Nat.le_refl _) _
        replace z := And.intro (Below.trans z.1 (Below.mono hal (Below.size z.1))) (Blk.gr z.2 hal)
        replace br := Blk.gr br hal
        try replace b4 := Blk.gr b4 hal
        try replace b9 := Blk.gr b9 hal
        try replace bd := Blk.gr bd hal
        clear hal
        generalize w4.heap.size = gc at *
        refine hK _ _ z ?_
        clear hK K
        refine wpW_det (t' := ?ct18R42) 18 (by rfl) (by kernel_rfl) (NQ_free _) (by kernel_rfl) ?cw18R42 ?ch18R42 ?ca18R42 (Eq.refl _) ?cH18R42
        case cw18R42 => (go_simp; done)
        case ch18R42 =>
          intro ds w' hS K hK
          go_simp
          try go_bits
          exact hK _ hS (Gr.refl _)
        case ca18R42 => (first | (simp [Act.put]; done) | (simp [Act.put, *]; done))
        try dsimp only
        refine wpW_branch [19] (by kernel_rfl) (by simp) ?_
        intro wz hg_wz hS_wz
        replace br := Blk.gr br hg_wz
        replace b4 := Blk.gr b4 hg_wz
        replace b9 := Blk.gr b9 hg_wz
        replace bc := Blk.gr bc hg_wz
        replace bd := Blk.gr bd hg_wz
        obtain ⟨z0, z1, z2, z3, z4, z5, z6, z7, z8, z9, z10, z11, z12, zf⟩ := blk13 br
        have lr := br.lt
        refine each_cons ?_ each_nil
        refine wpOp_go (by rfl) (Eq.refl _) (by go_simp; done) ?_
        intro K hK
        go_simp
        try simp only [Act.put]
        refine hK _ _ (And.intro (Below.set13 hS_wz.1 HGR.out (.slice (some ⟨g4, 0, none⟩) 4 4) (.string ⟨#[99]⟩) (.slice none 0 0) (.slice (some ⟨g9, 0, none⟩) 2 2) (.int .i64 1000) (.slice (some ⟨gc, 0, none⟩) 1 1) (.int .i64 0) (.int .i64 20) (.int .i64 0) (.int .i64 10) (.int .i64 0) (.int .i64 60) (.slice (some ⟨gd, 0, none⟩) 2 2)) (Blk.far13 hS_wz.2 (Blk.ne_ hS_wz.2 br (by decide)) (.slice (some ⟨g4, 0, none⟩) 4 4) (.string ⟨#[99]⟩) (.slice none 0 0) (.slice (some ⟨g9, 0, none⟩) 2 2) (.int .i64 1000) (.slice (some ⟨gc, 0, none⟩) 1 1) (.int .i64 0) (.int .i64 20) (.int .i64 0) (.int .i64 10) (.int .i64 0) (.int .i64 60) (.slice (some ⟨gd, 0, none⟩) 2 2))) ?_
        clear hK K z0 z1 z2 z3 z4 z5 z6 z7 z8 z9 z10 z11 z12 zf lr
        refine wpW_end (by kernel_rfl) ?_
        intro we hg hS
        unfold NQ
        dsimp only
        exact H.out _ _ _ _ _ _ _ _ _ _ _ _ _ _ _ _ _ _ _ _ we (HOK.out (Blk.gr (b4.far13 (Blk.ne_ b4 br (by decide)) (.slice (some ⟨g4, 0, none⟩) 4 4) (.string ⟨#[99]⟩) (.slice none 0 0) (.slice (some ⟨g9, 0, none⟩) 2 2) (.int .i64 1000) (.slice (some ⟨gc, 0, none⟩) 1 1) (.int .i64 0) (.int .i64 20) (.int .i64 0) (.int .i64 10) (.int .i64 0) (.int .i64 60) (.slice (some ⟨gd, 0, none⟩) 2 2)) hg) (Blk.gr (b9.far13 (Blk.ne_ b9 br (by decide)) (.slice (some ⟨g4, 0, none⟩) 4 4) (.string ⟨#[99]⟩) (.slice none 0 0) (.slice (some ⟨g9, 0, none⟩) 2 2) (.int .i64 1000) (.slice (some ⟨gc, 0, none⟩) 1 1) (.int .i64 0) (.int .i64 20) (.int .i64 0) (.int .i64 10) (.int .i64 0) (.int .i64 60) (.slice (some ⟨gd, 0, none⟩) 2 2)) hg) (Blk.gr (bc.far13 (Blk.ne_ bc br (by decide)) (.slice (some ⟨g4, 0, none⟩) 4 4) (.string ⟨#[99]⟩) (.slice none 0 0) (.slice (some ⟨g9, 0, none⟩) 2 2) (.int .i64 1000) (.slice (some ⟨gc, 0, none⟩) 1 1) (.int .i64 0) (.int .i64 20) (.int .i64 0) (.int .i64 10) (.int .i64 0) (.int .i64 60) (.slice (some ⟨gd, 0, none⟩) 2 2)) hg) (Blk.gr (bd.far13 (Blk.ne_ bd br (by decide)) (.slice (some ⟨g4, 0, none⟩) 4 4) (.string ⟨#[99]⟩) (.slice none 0 0) (.slice (some ⟨g9, 0, none⟩) 2 2) (.int .i64 1000) (.slice (some ⟨gc, 0, none⟩) 1 1) (.int .i64 0) (.int .i64 20) (.int .i64 0) (.int .i64 10) (.int .i64 0) (.int .i64 60) (.slice (some ⟨gd, 0, none⟩) 2 2)) hg)) (Blk.gr (br.set13 (.slice (some ⟨g4, 0, none⟩) 4 4) (.string ⟨#[99]⟩) (.slice none 0 0) (.slice (some ⟨g9, 0, none⟩) 2 2) (.int .i64 1000) (.slice (some ⟨gc, 0, none⟩) 1 1) (.int .i64 0) (.int .i64 20) (.int .i64 0) (.int .i64 10) (.int .i64 0) (.int .i64 60) (.slice (some ⟨gd, 0, none⟩) 2 2)) hg) hS.1
    · refine wpOp_go (by rfl) (Eq.refl _) (by go_simp; done) ?_
      intro K hK
      go_simp
      try simp only [Act.put]
      have bc := Blk.new w2 109 #[.string ⟨#[103, 97, 105, 110]⟩, .int .i64 100, .int .i64 50, .slice none 0 0]
      have hal : Gr w2 (w2.alloc (.cells #[.string ⟨#[103, 97, 105, 110]⟩, .int .i64 100, .int .i64 50, .slice none 0 0] 109)) := (Below.refl _ _).alloc (Nat.le_refl _) _
      replace z := And.intro (Below.trans z.1 (Below.mono hal (Below.size z.1))) (Blk.gr z.2 hal)
      replace br := Blk.gr br hal
      try replace b4 := Blk.gr b4 hal
      try replace b9 := Blk.gr b9 hal
      try replace bd := Blk.gr bd hal
      clear hal
      generalize w2.heap.size = gc at *
      refine hK _ _ z ?_
      clear hK K
      refine wpW_branch [4, 17] (by kernel_rfl) (by simp) ?_
      intro w3 hg3 hS3
      try clear z
      have z := hS3
      replace br := Blk.gr br hg3
      replace b9 := Blk.gr b9 hg3
      replace bc := Blk.gr bc hg3
      refine each_cons ?_ (each_cons ?_ (each_nil))
      · refine wpOp_go (by rfl) (Eq.refl _) (by go_simp; done) ?_
        intro K hK
        go_simp
        try simp only [Act.put]
        have b4 := Blk.new w3 104 #[.string ⟨#[97, 110, 110]⟩, .int .i64 1, .string ⟨#[98, 111, 98]⟩, .int .i64 2, .string ⟨#[99, 105, 100]⟩, .int .i64 2, .string ⟨#[100, 111, 114, 97]⟩, .int .i64 3]
        have hal : Gr w3 (w3.alloc (.cells #[.string ⟨#[97, 110, 110]⟩, .int .i64 1, .string ⟨#[98, 111, 98]⟩, .int .i64 2, .string ⟨#[99, 105, 100]⟩, .int .i64 2, .string ⟨#[100, 111, 114, 97]⟩, .int .i64 3] 104)) := (Below.refl _ _).alloc (Nat.le_refl _) _
        replace z := And.intro (Below.trans z.1 (Below.mono hal (Below.size z.1))) (Blk.gr z.2 hal)
        replace br := Blk.gr br hal
        try replace b9 := Blk.gr b9 hal
        try replace bc := Blk.gr bc hal
        try replace bd := Blk.gr bd hal
        clear hal
        generalize w3.heap.size = g4 at *
        refine hK _ _ z ?_
        clear hK K
        refine wpW_branch [17] (by kernel_rfl) (by simp) ?_
        intro w4 hg4 hS4
        try clear z
        have z := hS4
        replace br := Blk.gr br hg4
        replace b4 := Blk.gr b4 hg4
        replace b9 := Blk.gr b9 hg4
        replace bc := Blk.gr bc hg4
        refine each_cons ?_ (each_nil)
        refine wpOp_go (by rfl) (Eq.refl _) (by go_simp; done) ?_
        intro K hK
        go_simp
        try simp only [Act.put]
        have bd := Blk.new w4 111 #[.int .i64 100, .int .i64 5, .int .i64 900, .int .i64 12]
        have hal : Gr w4 (w4.alloc (.cells #[.int .i64 100, .int .i64 5, .int .i64 900, .int .i64 12] 111)) := (Below.refl _ _).alloc (Nat.le_refl _) _
        replace z := And.intro (Below.trans z.1 (Below.mono hal (Below.size z.1))) (Blk.gr z.2 hal)
        replace br := Blk.gr br hal
        try replace b4 := Blk.gr b4 hal
        try replace b9 := Blk.gr b9 hal
        try replace bc := Blk.gr bc hal
        clear hal
        generalize w4.heap.size = gd at *
        refine hK _ _ z ?_
        clear hK K
        refine wpW_det (t' := ?ct18R43) 18 (by rfl) (by kernel_rfl) (NQ_free _) (by kernel_rfl) ?cw18R43 ?ch18R43 ?ca18R43 (Eq.refl _) ?cH18R43
        case cw18R43 => (go_simp; done)
        case ch18R43 =>
          intro ds w' hS K hK
          go_simp
          try go_bits
          exact hK _ hS (Gr.refl _)
        case ca18R43 => (first | (simp [Act.put]; done) | (simp [Act.put, *]; done))
        try dsimp only
        refine wpW_branch [19] (by kernel_rfl) (by simp) ?_
        intro wz hg_wz hS_wz
        replace br := Blk.gr br hg_wz
        replace b4 := Blk.gr b4 hg_wz
        replace b9 := Blk.gr b9 hg_wz
        replace bc := Blk.gr bc hg_wz
        replace bd := Blk.gr bd hg_wz
        obtain ⟨z0, z1, z2, z3, z4, z5, z6, z7, z8, z9, z10, z11, z12, zf⟩ := blk13 br
        have lr := br.lt
        refine each_cons ?_ each_nil
        refine wpOp_go (by rfl) (Eq.refl _) (by go_simp; done) ?_
        intro K hK
        go_simp
        try simp only [Act.put]
        refine hK _ _ (And.intro (Below.set13 hS_wz.1 HGR.out (.slice (some ⟨g4, 0, none⟩) 4 4) (.string ⟨#[99]⟩) (.slice none 0 0) (.slice (some ⟨g9, 0, none⟩) 2 2) (.int .i64 1000) (.slice (some ⟨gc, 0, none⟩) 1 1) (.int .i64 0) (.int .i64 20) (.int .i64 0) (.int .i64 10) (.int .i64 0) (.int .i64 60) (.slice (some ⟨gd, 0, none⟩) 2 2)) (Blk.far13 hS_wz.2 (Blk.ne_ hS_wz.2 br (by decide)) (.slice (some ⟨g4, 0, none⟩) 4 4) (.string ⟨#[99]⟩) (.slice none 0 0) (.slice (some ⟨g9, 0, none⟩) 2 2) (.int .i64 1000) (.slice (some ⟨gc, 0, none⟩) 1 1) (.int .i64 0) (.int .i64 20) (.int .i64 0) (.int .i64 10) (.int .i64 0) (.int .i64 60) (.slice (some ⟨gd, 0, none⟩) 2 2))) ?_
        clear hK K z0 z1 z2 z3 z4 z5 z6 z7 z8 z9 z10 z11 z12 zf lr
        refine wpW_end (by kernel_rfl) ?_
        intro we hg hS
        unfold NQ
        dsimp only
        exact H.out _ _ _ _ _ _ _ _ _ _ _ _ _ _ _ _ _ _ _ _ we (HOK.out (Blk.gr (b4.far13 (Blk.ne_ b4 br (by decide)) (.slice (some ⟨g4, 0, none⟩) 4 4) (.string ⟨#[99]⟩) (.slice none 0 0) (.slice (some ⟨g9, 0, none⟩) 2 2) (.int .i64 1000) (.slice (some ⟨gc, 0, none⟩) 1 1) (.int .i64 0) (.int .i64 20) (.int .i64 0) (.int .i64 10) (.int .i64 0) (.int .i64 60) (.slice (some ⟨gd, 0, none⟩) 2 2)) hg) (Blk.gr (b9.far13 (Blk.ne_ b9 br (by decide)) (.slice (some ⟨g4, 0, none⟩) 4 4) (.string ⟨#[99]⟩) (.slice none 0 0) (.slice (some ⟨g9, 0, none⟩) 2 2) (.int .i64 1000) (.slice (some ⟨gc, 0, none⟩) 1 1) (.int .i64 0) (.int .i64 20) (.int .i64 0) (.int .i64 10) (.int .i64 0) (.int .i64 60) (.slice (some ⟨gd, 0, none⟩) 2 2)) hg) (Blk.gr (bc.far13 (Blk.ne_ bc br (by decide)) (.slice (some ⟨g4, 0, none⟩) 4 4) (.string ⟨#[99]⟩) (.slice none 0 0) (.slice (some ⟨g9, 0, none⟩) 2 2) (.int .i64 1000) (.slice (some ⟨gc, 0, none⟩) 1 1) (.int .i64 0) (.int .i64 20) (.int .i64 0) (.int .i64 10) (.int .i64 0) (.int .i64 60) (.slice (some ⟨gd, 0, none⟩) 2 2)) hg) (Blk.gr (bd.far13 (Blk.ne_ bd br (by decide)) (.slice (some ⟨g4, 0, none⟩) 4 4) (.string ⟨#[99]⟩) (.slice none 0 0) (.slice (some ⟨g9, 0, none⟩) 2 2) (.int .i64 1000) (.slice (some ⟨gc, 0, none⟩) 1 1) (.int .i64 0) (.int .i64 20) (.int .i64 0) (.int .i64 10) (.int .i64 0) (.int .i64 60) (.slice (some ⟨gd, 0, none⟩) 2 2)) hg)) (Blk.gr (br.set13 (.slice (some ⟨g4, 0, none⟩) 4 4) (.string ⟨#[99]⟩) (.slice none 0 0) (.slice (some ⟨g9, 0, none⟩) 2 2) (.int .i64 1000) (.slice (some ⟨gc, 0, none⟩) 1 1) (.int .i64 0) (.int .i64 20) (.int .i64 0) (.int .i64 10) (.int .i64 0) (.int .i64 60) (.slice (some ⟨gd, 0, none⟩) 2 2)) hg) hS.1
      · refine wpOp_go (by rfl) (Eq.refl _) (by go_simp; done) ?_
        intro K hK
        go_simp
        try simp only [Act.put]
        have bd := Blk.new w3 111 #[.int .i64 100, .int .i64 5, .int .i64 900, .int .i64 12]
        have hal : Gr w3 (w3.alloc (.cells #[.int .i64 100, .int .i64 5, .int .i64 900, .int .i64 12] 111)) := (Below.refl _ _).alloc (Nat.le_refl _) _
        replace z := And.intro (Below.trans z.1 (Below.mono hal (Below.size z.1))) (Blk.gr z.2 hal)
        replace br := Blk.gr br hal
        try replace b4 := Blk.gr b4 hal
        try replace b9 := Blk.gr b9 hal
        try replace bc := Blk.gr bc hal
        clear hal
        generalize w3.heap.size = gd at *
        refine hK _ _ z ?_
        clear hK K
        refine wpW_branch [4] (by kernel_rfl) (by simp) ?_
        intro w4 hg4 hS4
        try clear z
        have z := hS4
        replace br := Blk.gr br hg4
        replace b9 := Blk.gr b9 hg4
        replace bc := Blk.gr bc hg4
        replace bd := Blk.gr bd hg4
        refine each_cons ?_ (each_nil)
        refine wpOp_go (by rfl) (Eq.refl _) (by go_simp; done) ?_
        intro K hK
        go_simp
        try simp only [Act.put]
        have b4 := Blk.new w4 104 #[.string ⟨#[97, 110, 110]⟩, .int .i64 1, .string ⟨#[98, 111, 98]⟩, .int .i64 2, .string ⟨#[99, 105, 100]⟩, .int .i64 2, .string ⟨#[100, 111, 114, 97]⟩, .int .i64 3]
        have hal : Gr w4 (w4.alloc (.cells #[.string ⟨#[97, 110, 110]⟩, .int .i64 1, .string ⟨#[98, 111, 98]⟩, .int .i64 2, .string ⟨#[99, 105, 100]⟩, .int .i64 2, .string ⟨#[100, 111, 114, 97]⟩, .int .i64 3] 104)) := (Below.refl _ _).alloc (Nat.le_refl _) _
        replace z := And.intro (Below.trans z.1 (Below.mono hal (Below.size z.1))) (Blk.gr z.2 hal)
        replace br := Blk.gr br hal
        try replace b9 := Blk.gr b9 hal
        try replace bc := Blk.gr bc hal
        try replace bd := Blk.gr bd hal
        clear hal
        generalize w4.heap.size = g4 at *
        refine hK _ _ z ?_
        clear hK K
        refine wpW_det (t' := ?ct18R44) 18 (by rfl) (by kernel_rfl) (NQ_free _) (by kernel_rfl) ?cw18R44 ?ch18R44 ?ca18R44 (Eq.refl _) ?cH18R44
        case cw18R44 => (go_simp; done)
        case ch18R44 =>
          intro ds w' hS K hK
          go_simp
          try go_bits
          exact hK _ hS (Gr.refl _)
        case ca18R44 => (first | (simp [Act.put]; done) | (simp [Act.put, *]; done))
        try dsimp only
        refine wpW_branch [19] (by kernel_rfl) (by simp) ?_
        intro wz hg_wz hS_wz
        replace br := Blk.gr br hg_wz
        replace b4 := Blk.gr b4 hg_wz
        replace b9 := Blk.gr b9 hg_wz
        replace bc := Blk.gr bc hg_wz
        replace bd := Blk.gr bd hg_wz
        obtain ⟨z0, z1, z2, z3, z4, z5, z6, z7, z8, z9, z10, z11, z12, zf⟩ := blk13 br
        have lr := br.lt
        refine each_cons ?_ each_nil
        refine wpOp_go (by rfl) (Eq.refl _) (by go_simp; done) ?_
        intro K hK
        go_simp
        try simp only [Act.put]
        refine hK _ _ (And.intro (Below.set13 hS_wz.1 HGR.out (.slice (some ⟨g4, 0, none⟩) 4 4) (.string ⟨#[99]⟩) (.slice none 0 0) (.slice (some ⟨g9, 0, none⟩) 2 2) (.int .i64 1000) (.slice (some ⟨gc, 0, none⟩) 1 1) (.int .i64 0) (.int .i64 20) (.int .i64 0) (.int .i64 10) (.int .i64 0) (.int .i64 60) (.slice (some ⟨gd, 0, none⟩) 2 2)) (Blk.far13 hS_wz.2 (Blk.ne_ hS_wz.2 br (by decide)) (.slice (some ⟨g4, 0, none⟩) 4 4) (.string ⟨#[99]⟩) (.slice none 0 0) (.slice (some ⟨g9, 0, none⟩) 2 2) (.int .i64 1000) (.slice (some ⟨gc, 0, none⟩) 1 1) (.int .i64 0) (.int .i64 20) (.int .i64 0) (.int .i64 10) (.int .i64 0) (.int .i64 60) (.slice (some ⟨gd, 0, none⟩) 2 2))) ?_
        clear hK K z0 z1 z2 z3 z4 z5 z6 z7 z8 z9 z10 z11 z12 zf lr
        refine wpW_end (by kernel_rfl) ?_
        intro we hg hS
        unfold NQ
        dsimp only
        exact H.out _ _ _ _ _ _ _ _ _ _ _ _ _ _ _ _ _ _ _ _ we (HOK.out (Blk.gr (b4.far13 (Blk.ne_ b4 br (by decide)) (.slice (some ⟨g4, 0, none⟩) 4 4) (.string ⟨#[99]⟩) (.slice none 0 0) (.slice (some ⟨g9, 0, none⟩) 2 2) (.int .i64 1000) (.slice (some ⟨gc, 0, none⟩) 1 1) (.int .i64 0) (.int .i64 20) (.int .i64 0) (.int .i64 10) (.int .i64 0) (.int .i64 60) (.slice (some ⟨gd, 0, none⟩) 2 2)) hg) (Blk.gr (b9.far13 (Blk.ne_ b9 br (by decide)) (.slice (some ⟨g4, 0, none⟩) 4 4) (.string ⟨#[99]⟩) (.slice none 0 0) (.slice (some ⟨g9, 0, none⟩) 2 2) (.int .i64 1000) (.slice (some ⟨gc, 0, none⟩) 1 1) (.int .i64 0) (.int .i64 20) (.int .i64 0) (.int .i64 10) (.int .i64 0) (.int .i64 60) (.slice (some ⟨gd, 0, none⟩) 2 2)) hg) (Blk.gr (bc.far13 (Blk.ne_ bc br (by decide)) (.slice (some ⟨g4, 0, none⟩) 4 4) (.string ⟨#[99]⟩) (.slice none 0 0) (.slice (some ⟨g9, 0, none⟩) 2 2) (.int .i64 1000) (.slice (some ⟨gc, 0, none⟩) 1 1) (.int .i64 0) (.int .i64 20) (.int .i64 0) (.int .i64 10) (.int .i64 0) (.int .i64 60) (.slice (some ⟨gd, 0, none⟩) 2 2)) hg) (Blk.gr (bd.far13 (Blk.ne_ bd br (by decide)) (.slice (some ⟨g4, 0, none⟩) 4 4) (.string ⟨#[99]⟩) (.slice none 0 0) (.slice (some ⟨g9, 0, none⟩) 2 2) (.int .i64 1000) (.slice (some ⟨gc, 0, none⟩) 1 1) (.int .i64 0) (.int .i64 20) (.int .i64 0) (.int .i64 10) (.int .i64 0) (.int .i64 60) (.slice (some ⟨gd, 0, none⟩) 2 2)) hg)) (Blk.gr (br.set13 (.slice (some ⟨g4, 0, none⟩) 4 4) (.string ⟨#[99]⟩) (.slice none 0 0) (.slice (some ⟨g9, 0, none⟩) 2 2) (.int .i64 1000) (.slice (some ⟨gc, 0, none⟩) 1 1) (.int .i64 0) (.int .i64 20) (.int .i64 0) (.int .i64 10) (.int .i64 0) (.int .i64 60) (.slice (some ⟨gd, 0, none⟩) 2 2)) hg) hS.1
    · refine wpOp_go (by rfl) (Eq.refl _) (by go_simp; done) ?_
      intro K hK
      go_simp
      try simp only [Act.put]
      have bd := Blk.new w2 111 #[.int .i64 100, .int .i64 5, .int .i64 900, .int .i64 12]
      have hal : Gr w2 (w2.alloc (.cells #[.int .i64 100, .int .i64 5, .int .i64 900, .int .i64 12] 111)) := (Below.refl _ _).alloc (Nat.le_refl _) _
      replace z := And.intro (Below.trans z.1 (Below.mono hal (Below.size z.1))) (Blk.gr z.2 hal)
      replace br := Blk.gr br hal
      try replace b4 := Blk.gr b4 hal
      try replace b9 := Blk.gr b9 hal
      try replace bc := Blk.gr bc hal
      clear hal
      generalize w2.heap.size = gd at *
      refine hK _ _ z ?_
      clear hK K
      refine wpW_branch [4, 12] (by kernel_rfl) (by simp) ?_
      intro w3 hg3 hS3
      try clear z
      have z := hS3
      replace br := Blk.gr br hg3
      replace b9 := Blk.gr b9 hg3
      replace bd := Blk.gr bd hg3
      refine each_cons ?_ (each_cons ?_ (each_nil))
      · refine wpOp_go (by rfl) (Eq.refl _) (by go_simp; done) ?_
        intro K hK
        go_simp
        try simp only [Act.put]
        have b4 := Blk.new w3 104 #[.string ⟨#[97, 110, 110]⟩, .int .i64 1, .string ⟨#[98, 111, 98]⟩, .int .i64 2, .string ⟨#[99, 105, 100]⟩, .int .i64 2, .string ⟨#[100, 111, 114, 97]⟩, .int .i64 3]
        have hal : Gr w3 (w3.alloc (.cells #[.string ⟨#[97, 110, 110]⟩, .int .i64 1, .string ⟨#[98, 111, 98]⟩, .int .i64 2, .string ⟨#[99, 105, 100]⟩, .int .i64 2, .string ⟨#[100, 111, 114, 97]⟩, .int .i64 3] 104)) := (Below.refl _ _).alloc (Nat.le_refl _) _
        replace z := And.intro (Below.trans z.1 (Below.mono hal (Below.size z.1))) (Blk.gr z.2 hal)
        replace br := Blk.gr br hal
        try replace b9 := Blk.gr b9 hal
        try replace bc := Blk.gr bc hal
        try replace bd := Blk.gr bd hal
        clear hal
        generalize w3.heap.size = g4 at *
        refine hK _ _ z ?_
        clear hK K
        refine wpW_branch [12] (by kernel_rfl) (by simp) ?_
        intro w4 hg4 hS4
        try clear z
        have z := hS4
        replace br := Blk.gr br hg4
        replace b4 := Blk.gr b4 hg4
        replace b9 := Blk.gr b9 hg4
        replace bd := Blk.gr bd hg4
        refine each_cons ?_ (each_nil)
        refine wpOp_go (by rfl) (Eq.refl _) (by go_simp; done) ?_
        intro K hK
        go_simp
        try simp only [Act.put]
        have bc := Blk.new w4 109 #[.string ⟨#[103, 97, 105, 110]⟩, .int .i64 100, .int .i64 50, .slice none 0 0]
        have hal : Gr w4 (w4.alloc (.cells #[.string ⟨#[103, 97, 105, 110]⟩, .int .i64 100, .int .i64 50, .slice none 0 0] 109)) := (Below.refl _ _).alloc (Nat.le_refl _) _
        replace z := And.intro (Below.trans z.1 (Below.mono hal (Below.size z.1))) (Blk.gr z.2 hal)
        replace br := Blk.gr br hal
        try replace b4 := Blk.gr b4 hal
        try replace b9 := Blk.gr b9 hal
        try replace bd := Blk.gr bd hal
        clear hal
        generalize w4.heap.size = gc at *
        refine hK _ _ z ?_
        clear hK K
        refine wpW_det (t' := ?ct18R45) 18 (by rfl) (by kernel_rfl) (NQ_free _) (by kernel_rfl) ?cw18R45 ?ch18R45 ?ca18R45 (Eq.refl _) ?cH18R45
        case cw18R45 => (go_simp; done)
        case ch18R45 =>
          intro ds w' hS K hK
          go_simp
          try go_bits
          exact hK _ hS (Gr.refl _)
        case ca18R45 => (first | (simp [Act.put]; done) | (simp [Act.put, *]; done))
        try dsimp only
        refine wpW_branch [19] (by kernel_rfl) (by simp) ?_
        intro wz hg_wz hS_wz
        replace br := Blk.gr br hg_wz
        replace b4 := Blk.gr b4 hg_wz
        replace b9 := Blk.gr b9 hg_wz
        replace bc := Blk.gr bc hg_wz
        replace bd := Blk.gr bd hg_wz
        obtain ⟨z0, z1, z2, z3, z4, z5, z6, z7, z8, z9, z10, z11, z12, zf⟩ := blk13 br
        have lr := br.lt
        refine each_cons ?_ each_nil
        refine wpOp_go (by rfl) (Eq.refl _) (by go_simp; done) ?_
        intro K hK
        go_simp
        try simp only [Act.put]
        refine hK _ _ (And.intro (Below.set13 hS_wz.1 HGR.out (.slice (some ⟨g4, 0, none⟩) 4 4) (.string ⟨#[99]⟩) (.slice none 0 0) (.slice (some ⟨g9, 0, none⟩) 2 2) (.int .i64 1000) (.slice (some ⟨gc, 0, none⟩) 1 1) (.int .i64 0) (.int .i64 20) (.int .i64 0) (.int .i64 10) (.int .i64 0) (.int .i64 60) (.slice (some ⟨gd, 0, none⟩) 2 2)) (Blk.far13 hS_wz.2 (Blk.ne_ hS_wz.2 br (by decide)) (.slice (some ⟨g4, 0, none⟩) 4 4) (.string ⟨#[99]⟩) (.slice none 0 0) (.slice (some ⟨g9, 0, none⟩) 2 2) (.int .i64 1000) (.slice (some ⟨gc, 0, none⟩) 1 1) (.int .i64 0) (.int .i64 20) (.int .i64 0) (.int .i64 10) (.int .i64 0) (.int .i64 60) (.slice (some ⟨gd, 0, none⟩) 2 2))) ?_
        clear hK K z0 z1 z2 z3 z4 z5 z6 z7 z8 z9 z10 z11 z12 zf lr
        refine wpW_end (by kernel_rfl) ?_
        intro we hg hS
        unfold NQ
        dsimp only
        exact H.out _ _ _ _ _ _ _ _ _ _ _ _ _ _ _ _ _ _ _ _ we (HOK.out (Blk.gr (b4.far13 (Blk.ne_ b4 br (by decide)) (.slice (some ⟨g4, 0, none⟩) 4 4) (.string ⟨#[99]⟩) (.slice none 0 0) (.slice (some ⟨g9, 0, none⟩) 2 2) (.int .i64 1000) (.slice (some ⟨gc, 0, none⟩) 1 1) (.int .i64 0) (.int .i64 20) (.int .i64 0) (.int .i64 10) (.int .i64 0) (.int .i64 60) (.slice (some ⟨gd, 0, none⟩) 2 2)) hg) (Blk.gr (b9.far13 (Blk.ne_ b9 br (by decide)) (.slice (some ⟨g4, 0, none⟩) 4 4) (.string ⟨#[99]⟩) (.slice none 0 0) (.slice (some ⟨g9, 0, none⟩) 2 2) (.int .i64 1000) (.slice (some ⟨gc, 0, none⟩) 1 1) (.int .i64 0) (.int .i64 20) (.int .i64 0) (.int .i64 10) (.int .i64 0) (.int .i64 60) (.slice (some ⟨gd, 0, none⟩) 2 2)) hg) (Blk.gr (bc.far13 (Blk.ne_ bc br (by decide)) (.slice (some ⟨g4, 0, none⟩) 4 4) (.string ⟨#[99]⟩) (.slice none 0 0) (.slice (some ⟨g9, 0, none⟩) 2 2) (.int .i64 1000) (.slice (some ⟨gc, 0, none⟩) 1 1) (.int .i64 0) (.int .i64 20) (.int .i64 0) (.int .i64 10) (.int .i64 0) (.int .i64 60) (.slice (some ⟨gd, 0, none⟩) 2 2)) hg) (Blk.gr (bd.far13 (Blk.ne_ bd br (by decide)) (.slice (some ⟨g4, 0, none⟩) 4 4) (.string ⟨#[99]⟩) (.slice none 0 0) (.slice (some ⟨g9, 0, none⟩) 2 2) (.int .i64 1000) (.slice (some ⟨gc, 0, none⟩) 1 1) (.int .i64 0) (.int .i64 20) (.int .i64 0) (.int .i64 10) (.int .i64 0) (.int .i64 60) (.slice (some ⟨gd, 0, none⟩) 2 2)) hg)) (Blk.gr (br.set13 (.slice (some ⟨g4, 0, none⟩) 4 4) (.string ⟨#[99]⟩) (.slice none 0 0) (.slice (some ⟨g9, 0, none⟩) 2 2) (.int .i64 1000) (.slice (some ⟨gc, 0, none⟩) 1 1) (.int .i64 0) (.int .i64 20) (.int .i64 0) (.int .i64 10) (.int .i64 0) (.int .i64 60) (.slice (some ⟨gd, 0, none⟩) 2 2)) hg) hS.1
      · refine wpOp_go (by rfl) (Eq.refl _) (by go_simp; done) ?_
        intro K hK
        go_simp
        try simp only [Act.put]
        have bc := Blk.new w3 109 #[.string ⟨#[103, 97, 105, 110]⟩, .int .i64 100, .int .i64 50, .slice none 0 0]
        have hal : Gr w3 (w3.alloc (.cells #[.string ⟨#[103, 97, 105, 110]⟩, .int .i64 100, .int .i64 50, .slice none 0 0] 109)) := (Below.refl _ _).alloc (Nat.le_refl _) _
        replace z := And.intro (Below.trans z.1 (Below.mono hal (Below.size z.1))) (Blk.gr z.2 hal)
        replace br := Blk.gr br hal
        try replace b4 := Blk.gr b4 hal
        try replace b9 := Blk.gr b9 hal
        try replace bd := Blk.gr bd hal
        clear hal
        generalize w3.heap.size = gc at *
        refine hK _ _ z ?_
        clear hK K
        refine wpW_branch [4] (by kernel_rfl) (by simp) ?_
        intro w4 hg4 hS4
        try clear z
        have z := hS4
        replace br := Blk.gr br hg4
        replace b9 := Blk.gr b9 hg4
        replace bc := Blk.gr bc hg4
        replace bd := Blk.gr bd hg4
        refine each_cons ?_ (each_nil)
        refine wpOp_go (by rfl) (Eq.refl _) (by go_simp; done) ?_
        intro K hK
        go_simp
        try simp only [Act.put]
        have b4 := Blk.new w4 104 #[.string ⟨#[97, 110, 110]⟩, .int .i64 1, .string ⟨#[98, 111, 98]⟩, .int .i64 2, .string ⟨#[99, 105, 100]⟩, .int .i64 2, .string ⟨#[100, 111, 114, 97]⟩, .int .i64 3]
        have hal : Gr w4 (w4.alloc (.cells #[.string ⟨#[97, 110, 110]⟩, .int .i64 1, .string ⟨#[98, 111, 98]⟩, .int .i64 2, .string ⟨#[99, 105, 100]⟩, .int .i64 2, .string ⟨#[100, 111, 114, 97]⟩, .int .i64 3] 104)) := (Below.refl _ _).alloc (Nat.le_refl _) _
        replace z := And.intro (Below.trans z.1 (Below.mono hal (Below.size z.1))) (Blk.gr z.2 hal)
        replace br := Blk.gr br hal
        try replace b9 := Blk.gr b9 hal
        try replace bc := Blk.gr bc hal
        try replace bd := Blk.gr bd hal
        clear hal
        generalize w4.heap.size = g4 at *
        refine hK _ _ z ?_
        clear hK K
        refine wpW_det (t' := ?ct18R46) 18 (by rfl) (by kernel_rfl) (NQ_free _) (by kernel_rfl) ?cw18R46 ?ch18R46 ?ca18R46 (Eq.refl _) ?cH18R46
        case cw18R46 => (go_simp; done)
        case ch18R46 =>
          intro ds w' hS K hK
          go_simp
          try go_bits
          exact hK _ hS (Gr.refl _)
        case ca18R46 => (first | (simp [Act.put]; done) | (simp [Act.put, *]; done))
        try dsimp only
        refine wpW_branch [19] (by kernel_rfl) (by simp) ?_
        intro wz hg_wz hS_wz
        replace br := Blk.gr br hg_wz
        replace b4 := Blk.gr b4 hg_wz
        replace b9 := Blk.gr b9 hg_wz
        replace bc := Blk.gr bc hg_wz
        replace bd := Blk.gr bd hg_wz
        obtain ⟨z0, z1, z2, z3, z4, z5, z6, z7, z8, z9, z10, z11, z12, zf⟩ := blk13 br
        have lr := br.lt
        refine each_cons ?_ each_nil
        refine wpOp_go (by rfl) (Eq.refl _) (by go_simp; done) ?_
        intro K hK
        go_simp
        try simp only [Act.put]
        refine hK _ _ (And.intro (Below.set13 hS_wz.1 HGR.out (.slice (some ⟨g4, 0, none⟩) 4 4) (.string ⟨#[99]⟩) (.slice none 0 0) (.slice (some ⟨g9, 0, none⟩) 2 2) (.int .i64 1000) (.slice (some ⟨gc, 0, none⟩) 1 1) (.int .i64 0) (.int .i64 20) (.int .i64 0) (.int .i64 10) (.int .i64 0) (.int .i64 60) (.slice (some ⟨gd, 0, none⟩) 2 2)) (Blk.far13 hS_wz.2 (Blk.ne_ hS_wz.2 br (by decide)) (.slice (some ⟨g4, 0, none⟩) 4 4) (.string ⟨#[99]⟩) (.slice none 0 0) (.slice (some ⟨g9, 0, none⟩) 2 2) (.int .i64 1000) (.slice (some ⟨gc, 0, none⟩) 1 1) (.int .i64 0) (.int .i64 20) (.int .i64 0) (.int .i64 10) (.int .i64 0) (.int .i64 60) (.slice (some ⟨gd, 0, none⟩) 2 2))) ?_
        clear hK K z0 z1 z2 z3 z4 z5 z6 z7 z8 z9 z10 z11 z12 zf lr
        refine wpW_end (by kernel_rfl) ?_
        intro we hg hS
        unfold NQ
        dsimp only
        exact H.out _ _ _ _ _ _ _ _ _ _ _ _ _ _ _ _ _ _ _ _ we (HOK.out (Blk.gr (b4.far13 (Blk.ne_ b4 br (by decide)) (.slice (some ⟨g4, 0, none⟩) 4 4) (.string ⟨#[99]⟩) (.slice none 0 0) (.slice (some ⟨g9, 0, none⟩) 2 2) (.int .i64 1000) (.slice (some ⟨gc, 0, none⟩) 1 1) (.int .i64 0) (.int .i64 20) (.int .i64 0) (.int .i64 10) (.int .i64 0) (.int .i64 60) (.slice (some ⟨gd, 0, none⟩) 2 2)) hg) (Blk.gr (b9.far13 (Blk.ne_ b9 br (by decide)) (.slice (some ⟨g4, 0, none⟩) 4 4) (.string ⟨#[99]⟩) (.slice none 0 0) (.slice (some ⟨g9, 0, none⟩) 2 2) (.int .i64 1000) (.slice (some ⟨gc, 0, none⟩) 1 1) (.int .i64 0) (.int .i64 20) (.int .i64 0) (.int .i64 10) (.int .i64 0) (.int .i64 60) (.slice (some ⟨gd, 0, none⟩) 2 2)) hg) (Blk.gr (bc.far13 (Blk.ne_ bc br (by decide)) (.slice (some ⟨g4, 0, none⟩) 4 4) (.string ⟨#[99]⟩) (.slice none 0 0) (.slice (some ⟨g9, 0, none⟩) 2 2) (.int .i64 1000) (.slice (some ⟨gc, 0, none⟩) 1 1) (.int .i64 0) (.int .i64 20) (.int .i64 0) (.int .i64 10) (.int .i64 0) (.int .i64 60) (.slice (some ⟨gd, 0, none⟩) 2 2)) hg) (Blk.gr (bd.far13 (Blk.ne_ bd br (by decide)) (.slice (some ⟨g4, 0, none⟩) 4 4) (.string ⟨#[99]⟩) (.slice none 0 0) (.slice (some ⟨g9, 0, none⟩) 2 2) (.int .i64 1000) (.slice (some ⟨gc, 0, none⟩) 1 1) (.int .i64 0) (.int .i64 20) (.int .i64 0) (.int .i64 10) (.int .i64 0) (.int .i64 60) (.slice (some ⟨gd, 0, none⟩) 2 2)) hg)) (Blk.gr (br.set13 (.slice (some ⟨g4, 0, none⟩) 4 4) (.string ⟨#[99]⟩) (.slice none 0 0) (.slice (some ⟨g9, 0, none⟩) 2 2) (.int .i64 1000) (.slice (some ⟨gc, 0, none⟩) 1 1) (.int .i64 0) (.int .i64 20) (.int .i64 0) (.int .i64 10) (.int .i64 0) (.int .i64 60) (.slice (some ⟨gd, 0, none⟩) 2 2)) hg) hS.1
  · refine wpOp_go (by rfl) (Eq.refl _) (by go_simp; done) ?_
    intro K hK
    go_simp
    try simp only [Act.put]
    have bc := Blk.new w1 109 #[.string ⟨#[103, 97, 105, 110]⟩, .int .i64 100, .int .i64 50, .slice none 0 0]
    have hal : Gr w1 (w1.alloc (.cells #[.string ⟨#[103, 97, 105, 110]⟩, .int .i64 100, .int .i64 50, .slice none 0 0] 109)) := (Below.refl _ _).alloc (Nat.le_refl _) _
    replace z := And.intro (Below.trans z.1 (Below.mono hal (Below.size z.1))) (Blk.gr z.2 hal)
    replace br := Blk.gr br hal
    try replace b4 := Blk.gr b4 hal
    try replace b9 := Blk.gr b9 hal
    try replace bd := Blk.gr bd hal
    clear hal
    generalize w1.heap.size = gc at *
    refine hK _ _ z ?_
    clear hK K
    refine wpW_branch [4, 9, 17] (by kernel_rfl) (by simp) ?_
    intro w2 hg2 hS2
    try clear z
    have z := hS2
    replace br := Blk.gr br hg2
    replace bc := Blk.gr bc hg2
    refine each_cons ?_ (each_cons ?_ (each_cons ?_ (each_nil)))
    · refine wpOp_go (by rfl) (Eq.refl _) (by go_simp; done) ?_
      intro K hK
      go_simp
      try simp only [Act.put]
      have b4 := Blk.new w2 104 #[.string ⟨#[97, 110, 110]⟩, .int .i64 1, .string ⟨#[98, 111, 98]⟩, .int .i64 2, .string ⟨#[99, 105, 100]⟩, .int .i64 2, .string ⟨#[100, 111, 114, 97]⟩, .int .i64 3]
      have hal : Gr w2 (w2.alloc (.cells #[.string ⟨#[97, 110, 110]⟩, .int .i64 1, .string ⟨#[98, 111, 98]⟩, .int .i64 2, .string ⟨#[99, 105, 100]⟩, .int .i64 2, .string ⟨#[100, 111, 114, 97]⟩, .int .i64 3] 104)) := (Below.refl _ _).alloc (Nat.le_refl _) _
      replace z := And.intro (Below.trans z.1 (Below.mono hal (Below.size z.1))) (Blk.gr z.2 hal)
      replace br := Blk.gr br hal
      try replace b9 := Blk.gr b9 hal
      try replace bc := Blk.gr bc hal
      try replace bd := Blk.gr bd hal
      clear hal
      generalize w2.heap.size = g4 at *
      refine hK _ _ z ?_
      clear hK K
      refine wpW_branch [9, 17] (by kernel_rfl) (by simp) ?_
      intro w3 hg3 hS3
      try clear z
      have z := hS3
      replace br := Blk.gr br hg3
      replace b4 := Blk.gr b4 hg3
      replace bc := Blk.gr bc hg3
      refine each_cons ?_ (each_cons ?_ (each_nil))
      · refine wpOp_go (by rfl) (Eq.refl _) (by go_simp; done) ?_
        intro K hK
        go_simp
        try simp only [Act.put]
        have b9 := Blk.new w3 106 #[.int .i64 (weldLow 0), .int .i64 (weldLow 1), .int .i64 (weldLow 2), .int .i64 (weldLow 3), .int .i64 (weldLow 4), .int .i64 (weldLow 5), .int .i64 (weldLow 6), .int .i64 (weldLow 7), .int .i64 (weldLow 8), .int .i64 (weldLow 9), .int .i64 (weldLow 10), .int .i64 (weldLow 11), .int .i64 0, .int .i64 (weldTop 0), .int .i64 (weldTop 1), .int .i64 (weldTop 2), .int .i64 (weldTop 3), .int .i64 (weldTop 4), .int .i64 (weldTop 5), .int .i64 (weldTop 6), .int .i64 (weldTop 7), .int .i64 (weldTop 8), .int .i64 (weldTop 9), .int .i64 (weldTop 10), .int .i64 (weldTop 11), .int .i64 1]
        have hal : Gr w3 (w3.alloc (.cells #[.int .i64 (weldLow 0), .int .i64 (weldLow 1), .int .i64 (weldLow 2), .int .i64 (weldLow 3), .int .i64 (weldLow 4), .int .i64 (weldLow 5), .int .i64 (weldLow 6), .int .i64 (weldLow 7), .int .i64 (weldLow 8), .int .i64 (weldLow 9), .int .i64 (weldLow 10), .int .i64 (weldLow 11), .int .i64 0, .int .i64 (weldTop 0), .int .i64 (weldTop 1), .int .i64 (weldTop 2), .int .i64 (weldTop 3), .int .i64 (weldTop 4), .int .i64 (weldTop 5), .int .i64 (weldTop 6), .int .i64 (weldTop 7), .int .i64 (weldTop 8), .int .i64 (weldTop 9), .int .i64 (weldTop 10), .int .i64 (weldTop 11), .int .i64 1] 106)) := (Below.refl _ _).alloc (Nat.le_refl _) _
        replace z := And.intro (Below.trans z.1 (Below.mono hal (Below.size z.1))) (Blk.gr z.2 hal)
        replace br := Blk.gr br hal
        try replace b4 := Blk.gr b4 hal
        try replace bc := Blk.gr bc hal
        try replace bd := Blk.gr bd hal
        clear hal
        generalize w3.heap.size = g9 at *
        refine hK _ _ z ?_
        clear hK K
        refine wpW_det (t' := ?ct10R47) 10 (by rfl) (by kernel_rfl) (NQ_free _) (by kernel_rfl) ?cw10R47 ?ch10R47 ?ca10R47 (Eq.refl _) ?cH10R47
        case cw10R47 => (go_simp; done)
        case ch10R47 =>
          intro ds w' hS K hK
          go_simp
          try go_bits
          exact hK _ hS (Gr.refl _)
        case ca10R47 => (first | (simp [Act.put]; done) | (simp [Act.put, *]; done))
        try dsimp only
        refine wpW_branch [17] (by kernel_rfl) (by simp) ?_
        intro w4 hg4 hS4
        try clear z
        have z := hS4
        replace br := Blk.gr br hg4
        replace b4 := Blk.gr b4 hg4
        replace b9 := Blk.gr b9 hg4
        replace bc := Blk.gr bc hg4
        refine each_cons ?_ (each_nil)
        refine wpOp_go (by rfl) (Eq.refl _) (by go_simp; done) ?_
        intro K hK
        go_simp
        try simp only [Act.put]
        have bd := Blk.new w4 111 #[.int .i64 100, .int .i64 5, .int .i64 900, .int .i64 12]
        have hal : Gr w4 (w4.alloc (.cells #[.int .i64 100, .int .i64 5, .int .i64 900, .int .i64 12] 111)) := (Below.refl _ _).alloc (Nat.le_refl _) _
        replace z := And.intro (Below.trans z.1 (Below.mono hal (Below.size z.1))) (Blk.gr z.2 hal)
        replace br := Blk.gr br hal
        try replace b4 := Blk.gr b4 hal
        try replace b9 := Blk.gr b9 hal
        try replace bc := Blk.gr bc hal
        clear hal
        generalize w4.heap.size = gd at *
        refine hK _ _ z ?_
        clear hK K
        refine wpW_det (t' := ?ct18R48) 18 (by rfl) (by kernel_rfl) (NQ_free _) (by kernel_rfl) ?cw18R48 ?ch18R48 ?ca18R48 (Eq.refl _) ?cH18R48
        case cw18R48 => (go_simp; done)
        case ch18R48 =>
          intro ds w' hS K hK
          go_simp
          try go_bits
          exact hK _ hS (Gr.refl _)
        case ca18R48 => (first | (simp [Act.put]; done) | (simp [Act.put, *]; done))
        try dsimp only
        refine wpW_branch [19] (by kernel_rfl) (by simp) ?_
        intro wz hg_wz hS_wz
        replace br := Blk.gr br hg_wz
        replace b4 := Blk.gr b4 hg_wz
        replace b9 := Blk.gr b9 hg_wz
        replace bc := Blk.gr bc hg_wz
        replace bd := Blk.gr bd hg_wz
        obtain ⟨z0, z1, z2, z3, z4, z5, z6, z7, z8, z9, z10, z11, z12, zf⟩ := blk13 br
        have lr := br.lt
        refine each_cons ?_ each_nil
        refine wpOp_go (by rfl) (Eq.refl _) (by go_simp; done) ?_
        intro K hK
        go_simp
        try simp only [Act.put]
        refine hK _ _ (And.intro (Below.set13 hS_wz.1 HGR.out (.slice (some ⟨g4, 0, none⟩) 4 4) (.string ⟨#[99]⟩) (.slice none 0 0) (.slice (some ⟨g9, 0, none⟩) 2 2) (.int .i64 1000) (.slice (some ⟨gc, 0, none⟩) 1 1) (.int .i64 0) (.int .i64 20) (.int .i64 0) (.int .i64 10) (.int .i64 0) (.int .i64 60) (.slice (some ⟨gd, 0, none⟩) 2 2)) (Blk.far13 hS_wz.2 (Blk.ne_ hS_wz.2 br (by decide)) (.slice (some ⟨g4, 0, none⟩) 4 4) (.string ⟨#[99]⟩) (.slice none 0 0) (.slice (some ⟨g9, 0, none⟩) 2 2) (.int .i64 1000) (.slice (some ⟨gc, 0, none⟩) 1 1) (.int .i64 0) (.int .i64 20) (.int .i64 0) (.int .i64 10) (.int .i64 0) (.int .i64 60) (.slice (some ⟨gd, 0, none⟩) 2 2))) ?_
        clear hK K z0 z1 z2 z3 z4 z5 z6 z7 z8 z9 z10 z11 z12 zf lr
        refine wpW_end (by kernel_rfl) ?_
        intro we hg hS
        unfold NQ
        dsimp only
        exact H.out _ _ _ _ _ _ _ _ _ _ _ _ _ _ _ _ _ _ _ _ we (HOK.out (Blk.gr (b4.far13 (Blk.ne_ b4 br (by decide)) (.slice (some ⟨g4, 0, none⟩) 4 4) (.string ⟨#[99]⟩) (.slice none 0 0) (.slice (some ⟨g9, 0, none⟩) 2 2) (.int .i64 1000) (.slice (some ⟨gc, 0, none⟩) 1 1) (.int .i64 0) (.int .i64 20) (.int .i64 0) (.int .i64 10) (.int .i64 0) (.int .i64 60) (.slice (some ⟨gd, 0, none⟩) 2 2)) hg) (Blk.gr (b9.far13 (Blk.ne_ b9 br (by decide)) (.slice (some ⟨g4, 0, none⟩) 4 4) (.string ⟨#[99]⟩) (.slice none 0 0) (.slice (some ⟨g9, 0, none⟩) 2 2) (.int .i64 1000) (.slice (some ⟨gc, 0, none⟩) 1 1) (.int .i64 0) (.int .i64 20) (.int .i64 0) (.int .i64 10) (.int .i64 0) (.int .i64 60) (.slice (some ⟨gd, 0, none⟩) 2 2)) hg) (Blk.gr (bc.far13 (Blk.ne_ bc br (by decide)) (.slice (some ⟨g4, 0, none⟩) 4 4) (.string ⟨#[99]⟩) (.slice none 0 0) (.slice (some ⟨g9, 0, none⟩) 2 2) (.int .i64 1000) (.slice (some ⟨gc, 0, none⟩) 1 1) (.int .i64 0) (.int .i64 20) (.int .i64 0) (.int .i64 10) (.int .i64 0) (.int .i64 60) (.slice (some ⟨gd, 0, none⟩) 2 2)) hg) (Blk.gr (bd.far13 (Blk.ne_ bd br (by decide)) (.slice (some ⟨g4, 0, none⟩) 4 4) (.string ⟨#[99]⟩) (.slice none 0 0) (.slice (some ⟨g9, 0, none⟩) 2 2) (.int .i64 1000) (.slice (some ⟨gc, 0, none⟩) 1 1) (.int .i64 0) (.int .i64 20) (.int .i64 0) (.int .i64 10) (.int .i64 0) (.int .i64 60) (.slice (some ⟨gd, 0, none⟩) 2 2)) hg)) (Blk.gr (br.set13 (.slice (some ⟨g4, 0, none⟩) 4 4) (.string ⟨#[99]⟩) (.slice none 0 0) (.slice (some ⟨g9, 0, none⟩) 2 2) (.int .i64 1000) (.slice (some ⟨gc, 0, none⟩) 1 1) (.int .i64 0) (.int .i64 20) (.int .i64 0) (.int .i64 10) (.int .i64 0) (.int .i64 60) (.slice (some ⟨gd, 0, none⟩) 2 2)) hg) hS.1
      · refine wpOp_go (by rfl) (Eq.refl _) (by go_simp; done) ?_
        intro K hK
        go_simp
        try simp only [Act.put]
        have bd := Blk.new w3 111 #[.int .i64 100, .int .i64 5, .int .i64 900, .int .i64 12]
        have hal : Gr w3 (w3.alloc (.cells #[.int .i64 100, .int .i64 5, .int .i64 900, .int .i64 12] 111)) := (Below.refl _ _).alloc (Nat.le_refl _) _
        replace z := And.intro (Below.trans z.1 (Below.mono hal (Below.size z.1))) (Blk.gr z.2 hal)
        replace br := Blk.gr br hal
        try replace b4 := Blk.gr b4 hal
        try replace b9 := Blk.gr b9 hal
        try replace bc := Blk.gr bc hal
        clear hal
        generalize w3.heap.size = gd at *
        refine hK _ _ z ?_
        clear hK K
        refine wpW_branch [9] (by kernel_rfl) (by simp) ?_
        intro w4 hg4 hS4
        try clear z
        have z := hS4
        replace br := Blk.gr br hg4
        replace b4 := Blk.gr b4 hg4
        replace bc := Blk.gr bc hg4
        replace bd := Blk.gr bd hg4
        refine each_cons ?_ (each_nil)
        refine wpOp_go (by rfl) (Eq.refl _) (by go_simp; done) ?_
        intro K hK
        go_simp
        try simp only [Act.put]
        have b9 := Blk.new w4 106 #[.int .i64 (weldLow 0), .int .i64 (weldLow 1), .int .i64 (weldLow 2), .int .i64 (weldLow 3), .int .i64 (weldLow 4), .int .i64 (weldLow 5), .int .i64 (weldLow 6), .int .i64 (weldLow 7), .int .i64 (weldLow 8), .int .i64 (weldLow 9), .int .i64 (weldLow 10), .int .i64 (weldLow 11), .int .i64 0, .int .i64 (weldTop 0), .int .i64 (weldTop 1), .int .i64 (weldTop 2), .int .i64 (weldTop 3), .int .i64 (weldTop 4), .int .i64 (weldTop 5), .int .i64 (weldTop 6), .int .i64 (weldTop 7), .int .i64 (weldTop 8), .int .i64 (weldTop 9), .int .i64 (weldTop 10), .int .i64 (weldTop 11), .int .i64 1]
        have hal : Gr w4 (w4.alloc (.cells #[.int .i64 (weldLow 0), .int .i64 (weldLow 1), .int .i64 (weldLow 2), .int .i64 (weldLow 3), .int .i64 (weldLow 4), .int .i64 (weldLow 5), .int .i64 (weldLow 6), .int .i64 (weldLow 7), .int .i64 (weldLow 8), .int .i64 (weldLow 9), .int .i64 (weldLow 10), .int .i64 (weldLow 11), .int .i64 0, .int .i64 (weldTop 0), .int .i64 (weldTop 1), .int .i64 (weldTop 2), .int .i64 (weldTop 3), .int .i64 (weldTop 4), .int .i64 (weldTop 5), .int .i64 (weldTop 6), .int .i64 (weldTop 7), .int .i64 (weldTop 8), .int .i64 (weldTop 9), .int .i64 (weldTop 10), .int .i64 (weldTop 11), .int .i64 1] 106)) := (Below.refl _ _).alloc (Nat.le_refl _) _
        replace z := And.intro (Below.trans z.1 (Below.mono hal (Below.size z.1))) (Blk.gr z.2 hal)
        replace br := Blk.gr br hal
        try replace b4 := Blk.gr b4 hal
        try replace bc := Blk.gr bc hal
        try replace bd := Blk.gr bd hal
        clear hal
        generalize w4.heap.size = g9 at *
        refine hK _ _ z ?_
        clear hK K
        refine wpW_det (t' := ?ct10R49) 10 (by rfl) (by kernel_rfl) (NQ_free _) (by kernel_rfl) ?cw10R49 ?ch10R49 ?ca10R49 (Eq.refl _) ?cH10R49
        case cw10R49 => (go_simp; done)
        case ch10R49 =>
          intro ds w' hS K hK
          go_simp
          try go_bits
          exact hK _ hS (Gr.refl _)
        case ca10R49 => (first | (simp [Act.put]; done) | (simp [Act.put, *]; done))
        try dsimp only
        refine wpW_det (t' := ?ct18R50) 18 (by rfl) (by kernel_rfl) (NQ_free _) (by kernel_rfl) ?cw18R50 ?ch18R50 ?ca18R50 (Eq.refl _) ?cH18R50
        case cw18R50 => (go_simp; done)
        case ch18R50 =>
          intro ds w' hS K hK
          go_simp
          try go_bits
          exact hK _ hS (Gr.refl _)
        case ca18R50 => (first | (simp [Act.put]; done) | (simp [Act.put, *]; done))
        try dsimp only
        refine wpW_branch [19] (by kernel_rfl) (by simp) ?_
        intro wz hg_wz hS_wz
        replace br := Blk.gr br hg_wz
        replace b4 := Blk.gr b4 hg_wz
        replace b9 := Blk.gr b9 hg_wz
        replace bc := Blk.gr bc hg_wz
        replace bd := Blk.gr bd hg_wz
        obtain ⟨z0, z1, z2, z3, z4, z5, z6, z7, z8, z9, z10, z11, z12, zf⟩ := blk13 br
        have lr := br.lt
        refine each_cons ?_ each_nil
        refine wpOp_go (by rfl) (Eq.refl _) (by go_simp; done) ?_
        intro K hK
        go_simp
        try simp only [Act.put]
        refine hK _ _ (And.intro (Below.set13 hS_wz.1 HGR.out (.slice (some ⟨g4, 0, none⟩) 4 4) (.string ⟨#[99]⟩) (.slice none 0 0) (.slice (some ⟨g9, 0, none⟩) 2 2) (.int .i64 1000) (.slice (some ⟨gc, 0, none⟩) 1 1) (.int .i64 0) (.int .i64 20) (.int .i64 0) (.int .i64 10) (.int .i64 0) (.int .i64 60) (.slice (some ⟨gd, 0, none⟩) 2 2)) (Blk.far13 hS_wz.2 (Blk.ne_ hS_wz.2 br (by decide)) (.slice (some ⟨g4, 0, none⟩) 4 4) (.string ⟨#[99]⟩) (.slice none 0 0) (.slice (some ⟨g9, 0, none⟩) 2 2) (.int .i64 1000) (.slice (some ⟨gc, 0, none⟩) 1 1) (.int .i64 0) (.int .i64 20) (.int .i64 0) (.int .i64 10) (.int .i64 0) (.int .i64 60) (.slice (some ⟨gd, 0, none⟩) 2 2))) ?_
        clear hK K z0 z1 z2 z3 z4 z5 z6 z7 z8 z9 z10 z11 z12 zf lr
        refine wpW_end (by kernel_rfl) ?_
        intro we hg hS
        unfold NQ
        dsimp only
        exact H.out _ _ _ _ _ _ _ _ _ _ _ _ _ _ _ _ _ _ _ _ we (HOK.out (Blk.gr (b4.far13 (Blk.ne_ b4 br (by decide)) (.slice (some ⟨g4, 0, none⟩) 4 4) (.string ⟨#[99]⟩) (.slice none 0 0) (.slice (some ⟨g9, 0, none⟩) 2 2) (.int .i64 1000) (.slice (some ⟨gc, 0, none⟩) 1 1) (.int .i64 0) (.int .i64 20) (.int .i64 0) (.int .i64 10) (.int .i64 0) (.int .i64 60) (.slice (some ⟨gd, 0, none⟩) 2 2)) hg) (Blk.gr (b9.far13 (Blk.ne_ b9 br (by decide)) (.slice (some ⟨g4, 0, none⟩) 4 4) (.string ⟨#[99]⟩) (.slice none 0 0) (.slice (some ⟨g9, 0, none⟩) 2 2) (.int .i64 1000) (.slice (some ⟨gc, 0, none⟩) 1 1) (.int .i64 0) (.int .i64 20) (.int .i64 0) (.int .i64 10) (.int .i64 0) (.int .i64 60) (.slice (some ⟨gd, 0, none⟩) 2 2)) hg) (Blk.gr (bc.far13 (Blk.ne_ bc br (by decide)) (.slice (some ⟨g4, 0, none⟩) 4 4) (.string ⟨#[99]⟩) (.slice none 0 0) (.slice (some ⟨g9, 0, none⟩) 2 2) (.int .i64 1000) (.slice (some ⟨gc, 0, none⟩) 1 1) (.int .i64 0) (.int .i64 20) (.int .i64 0) (.int .i64 10) (.int .i64 0) (.int .i64 60) (.slice (some ⟨gd, 0, none⟩) 2 2)) hg) (Blk.gr (bd.far13 (Blk.ne_ bd br (by decide)) (.slice (some ⟨g4, 0, none⟩) 4 4) (.string ⟨#[99]⟩) (.slice none 0 0) (.slice (some ⟨g9, 0, none⟩) 2 2) (.int .i64 1000) (.slice (some ⟨gc, 0, none⟩) 1 1) (.int .i64 0) (.int .i64 20) (.int .i64 0) (.int .i64 10) (.int .i64 0) (.int .i64 60) (.slice (some ⟨gd, 0, none⟩) 2 2)) hg)) (Blk.gr (br.set13 (.slice (some ⟨g4, 0, none⟩) 4 4) (.string ⟨#[99]⟩) (.slice none 0 0) (.slice (some ⟨g9, 0, none⟩) 2 2) (.int .i64 1000) (.slice (some ⟨gc, 0, none⟩) 1 1) (.int .i64 0) (.int .i64 20) (.int .i64 0) (.int .i64 10) (.int .i64 0) (.int .i64 60) (.slice (some ⟨gd, 0, none⟩) 2 2)) hg) hS.1
    · refine wpOp_go (by rfl) (Eq.refl _) (by go_simp; done) ?_
      intro K hK
      go_simp
      try simp only [Act.put]
      have b9 := Blk.new w2 106 #[.int .i64 (weldLow 0), .int .i64 (weldLow 1), .int .i64 (weldLow 2), .int .i64 (weldLow 3), .int .i64 (weldLow 4), .int .i64 (weldLow 5), .int .i64 (weldLow 6), .int .i64 (weldLow 7), .int .i64 (weldLow 8), .int .i64 (weldLow 9), .int .i64 (weldLow 10), .int .i64 (weldLow 11), .int .i64 0, .int .i64 (weldTop 0), .int .i64 (weldTop 1), .int .i64 (weldTop 2), .int .i64 (weldTop 3), .int .i64 (weldTop 4), .int .i64 (weldTop 5), .int .i64 (weldTop 6), .int .i64 (weldTop 7), .int .i64 (weldTop 8), .int .i64 (weldTop 9), .int .i64 (weldTop 10), .int .i64 (weldTop 11), .int .i64 1]
      have hal : Gr w2 (w2.alloc (.cells #[.int .i64 (weldLow 0), .int .i64 (weldLow 1), .int .i64 (weldLow 2), .int .i64 (weldLow 3), .int .i64 (weldLow 4), .int .i64 (weldLow 5), .int .i64 (weldLow 6), .int .i64 (weldLow 7), .int .i64 (weldLow 8), .int .i64 (weldLow 9), .int .i64 (weldLow 10), .int .i64 (weldLow 11), .int .i64 0, .int .i64 (weldTop 0), .int .i64 (weldTop 1), .int .i64 (weldTop 2), .int .i64 (weldTop 3), .int .i64 (weldTop 4), .int .i64 (weldTop 5), .int .i64 (weldTop 6), .int .i64 (weldTop 7), .int .i64 (weldTop 8), .int .i64 (weldTop 9), .int .i64 (weldTop 10), .int .i64 (weldTop 11), .int .i64 1] 106)) := (Below.refl _ _).alloc (Nat.le_refl _) _
      replace z := And.intro (Below.trans z.1 (Below.mono hal (Below.size z.1))) (Blk.gr z.2 hal)
      replace br := Blk.gr br hal
      try replace b4 := Blk.gr b4 hal
      try replace bc := Blk.gr bc hal
      try replace bd := Blk.gr bd hal
      clear hal
      generalize w2.heap.size = g9 at *
      refine hK _ _ z ?_
      clear hK K
      refine wpW_det (t' := ?ct10R51) 10 (by rfl) (by kernel_rfl) (NQ_free _) (by kernel_rfl) ?cw10R51 ?ch10R51 ?ca10R51 (Eq.refl _) ?cH10R51
      case cw10R51 => (go_simp; done)
      case ch10R51 =>
        intro ds w' hS K hK
        go_simp
        try go_bits
        exact hK _ hS (Gr.refl _)
      case ca10R51 => (first | (simp [Act.put]; done) | (simp [Act.put, *]; done))
      try dsimp only
      refine wpW_branch [4, 17] (by kernel_rfl) (by simp) ?_
      intro w3 hg3 hS3
      try clear z
      have z := hS3
      replace br := Blk.gr br hg3
      replace b9 := Blk.gr b9 hg3
      replace bc := Blk.gr bc hg3
      refine each_cons ?_ (each_cons ?_ (each_nil))
      · refine wpOp_go (by rfl) (Eq.refl _) (by go_simp; done) ?_
        intro K hK
        go_simp
        try simp only [Act.put]
        have b4 := Blk.new w3 104 #[.string ⟨#[97, 110, 110]⟩, .int .i64 1, .string ⟨#[98, 111, 98]⟩, .int .i64 2, .string ⟨#[99, 105, 100]⟩, .int .i64 2, .string ⟨#[100, 111, 114, 97]⟩, .int .i64 3]
        have hal : Gr w3 (w3.alloc (.cells #[.string ⟨#[97, 110, 110]⟩, .int .i64 1, .string ⟨#[98, 111, 98]⟩, .int .i64 2, .string ⟨#[99, 105, 100]⟩, .int .i64 2, .string ⟨#[100, 111, 114, 97]⟩, .int .i64 3] 104)) := (Below.refl _ _).alloc (Nat.le_refl _) _
        replace z := And.intro (Below.trans z.1 (Below.mono hal (Below.size z.1))) (Blk.gr z.2 hal)
        replace br := Blk.gr br hal
        try replace b9 := Blk.gr b9 hal
        try replace bc := Blk.gr bc hal
        try replace bd := Blk.gr bd hal
        clear hal
        generalize w3.heap.size = g4 at *
        refine hK _ _ z ?_
        clear hK K
        refine wpW_branch [17] (by kernel_rfl) (by simp) ?_
        intro w4 hg4 hS4
        try clear z
        have z := hS4
        replace br := Blk.gr br hg4
        replace b4 := Blk.gr b4 hg4
        replace b9 := Blk.gr b9 hg4
        replace bc := Blk.gr bc hg4
        refine each_cons ?_ (each_nil)
        refine wpOp_go (by rfl) (Eq.refl _) (by go_simp; done) ?_
        intro K hK
        go_simp
        try simp only [Act.put]
        have bd := Blk.new w4 111 #[.int .i64 100, .int .i64 5, .int .i64 900, .int .i64 12]
        have hal : Gr w4 (w4.alloc (.cells #[.int .i64 100, .int .i64 5, .int .i64 900, .int .i64 12] 111)) := (Below.refl _ _).alloc (Nat.le_refl _) _
        replace z := And.intro (Below.trans z.1 (Below.mono hal (Below.size z.1))) (Blk.gr z.2 hal)
        replace br := Blk.gr br hal
        try replace b4 := Blk.gr b4 hal
        try replace b9 := Blk.gr b9 hal
        try replace bc := Blk.gr bc hal
        clear hal
        generalize w4.heap.size = gd at *
        refine hK _ _ z ?_
        clear hK K
        refine wpW_det (t' := ?ct18R52) 18 (by rfl) (by kernel_rfl) (NQ_free _) (by kernel_rfl) ?cw18R52 ?ch18R52 ?ca18R52 (Eq.refl _) ?cH18R52
        case cw18R52 => (go_simp; done)
        case ch18R52 =>
          intro ds w' hS K hK
          go_simp
          try go_bits
          exact hK _ hS (Gr.refl _)
        case ca18R52 => (first | (simp [Act.put]; done) | (simp [Act.put, *]; done))
        try dsimp only
        refine wpW_branch [19] (by kernel_rfl) (by simp) ?_
        intro wz hg_wz hS_wz
        replace br := Blk.gr br hg_wz
        replace b4 := Blk.gr b4 hg_wz
        replace b9 := Blk.gr b9 hg_wz
        replace bc := Blk.gr bc hg_wz
        replace bd := Blk.gr bd hg_wz
        obtain ⟨z0, z1, z2, z3, z4, z5, z6, z7, z8, z9, z10, z11, z12, zf⟩ := blk13 br
        have lr := br.lt
        refine each_cons ?_ each_nil
        refine wpOp_go (by rfl) (Eq.refl _) (by go_simp; done) ?_
        intro K hK
        go_simp
        try simp only [Act.put]
        refine hK _ _ (And.intro (Below.set13 hS_wz.1 HGR.out (.slice (some ⟨g4, 0, none⟩) 4 4) (.string ⟨#[99]⟩) (.slice none 0 0) (.slice (some ⟨g9, 0, none⟩) 2 2) (.int .i64 1000) (.slice (some ⟨gc, 0, none⟩) 1 1) (.int .i64 0) (.int .i64 20) (.int .i64 0) (.int .i64 10) (.int .i64 0) (.int .i64 60) (.slice (some ⟨gd, 0, none⟩) 2 2)) (Blk.far13 hS_wz.2 (Blk.ne_ hS_wz.2 br (by decide)) (.slice (some ⟨g4, 0, none⟩) 4 4) (.string ⟨#[99]⟩) (.slice none 0 0) (.slice (some ⟨g9, 0, none⟩) 2 2) (.int .i64 1000) (.slice (some ⟨gc, 0, none⟩) 1 1) (.int .i64 0) (.int .i64 20) (.int .i64 0) (.int .i64 10) (.int .i64 0) (.int .i64 60) (.slice (some ⟨gd, 0, none⟩) 2 2))) ?_
        clear hK K z0 z1 z2 z3 z4 z5 z6 z7 z8 z9 z10 z11 z12 zf lr
        refine wpW_end (by kernel_rfl) ?_
        intro we hg hS
        unfold NQ
        dsimp only
        exact H.out _ _ _ _ _ _ _ _ _ _ _ _ _ _ _ _ _ _ _ _ we (HOK.out (Blk.gr (b4.far13 (Blk.ne_ b4 br (by decide)) (.slice (some ⟨g4, 0, none⟩) 4 4) (.string ⟨#[99]⟩) (.slice none 0 0) (.slice (some ⟨g9, 0, none⟩) 2 2) (.int .i64 1000) (.slice (some ⟨gc, 0, none⟩) 1 1) (.int .i64 0) (.int .i64 20) (.int .i64 0) (.int .i64 10) (.int .i64 0) (.int .i64 60) (.slice (some ⟨gd, 0, none⟩) 2 2)) hg) (Blk.gr (b9.far13 (Blk.ne_ b9 br (by decide)) (.slice (some ⟨g4, 0, none⟩) 4 4) (.string ⟨#[99]⟩) (.slice none 0 0) (.slice (some ⟨g9, 0, none⟩) 2 2) (.int .i64 1000) (.slice (some ⟨gc, 0, none⟩) 1 1) (.int .i64 0) (.int .i64 20) (.int .i64 0) (.int .i64 10) (.int .i64 0) (.int .i64 60) (.slice (some ⟨gd, 0, none⟩) 2 2)) hg) (Blk.gr (bc.far13 (Blk.ne_ bc br (by decide)) (.slice (some ⟨g4, 0, none⟩) 4 4) (.string ⟨#[99]⟩) (.slice none 0 0) (.slice (some ⟨g9, 0, none⟩) 2 2) (.int .i64 1000) (.slice (some ⟨gc, 0, none⟩) 1 1) (.int .i64 0) (.int .i64 20) (.int .i64 0) (.int .i64 10) (.int .i64 0) (.int .i64 60) (.slice (some ⟨gd, 0, none⟩) 2 2)) hg) (Blk.gr (bd.far13 (Blk.ne_ bd br (by decide)) (.slice (some ⟨g4, 0, none⟩) 4 4) (.string ⟨#[99]⟩) (.slice none 0 0) (.slice (some ⟨g9, 0, none⟩) 2 2) (.int .i64 1000) (.slice (some ⟨gc, 0, none⟩) 1 1) (.int .i64 0) (.int .i64 20) (.int .i64 0) (.int .i64 10) (.int .i64 0) (.int .i64 60) (.slice (some ⟨gd, 0, none⟩) 2 2)) hg)) (Blk.gr (br.set13 (.slice (some ⟨g4, 0, none⟩) 4 4) (.string ⟨#[99]⟩) (.slice none 0 0) (.slice (some ⟨g9, 0, none⟩) 2 2) (.int .i64 1000) (.slice (some ⟨gc, 0, none⟩) 1 1) (.int .i64 0) (.int .i64 20) (.int .i64 0) (.int .i64 10) (.int .i64 0) (.int .i64 60) (.slice (some ⟨gd, 0, none⟩) 2 2)) hg) hS.1
      · refine wpOp_go (by rfl) (Eq.refl _) (by go_simp; done) ?_
        intro K hK
        go_simp
        try simp only [Act.put]
        have bd := Blk.new w3 111 #[.int .i64 100, .int .i64 5, .int .i64 900, .int .i64 12]
        have hal : Gr w3 (w3.alloc (.cells #[.int .i64 100, .int .i64 5, .int .i64 900, .int .i64 12] 111)) := (Below.refl _ _).alloc (Nat.le_refl _) _
        replace z := And.intro (Below.trans z.1 (Below.mono hal (Below.size z.1))) (Blk.gr z.2 hal)
        replace br := Blk.gr br hal
        try replace b4 := Blk.gr b4 hal
        try replace b9 := Blk.gr b9 hal
        try replace bc := Blk.gr bc hal
        clear hal
        generalize w3.heap.size = gd at *
        refine hK _ _ z ?_
        clear hK K
        refine wpW_branch [4] (by kernel_rfl) (by simp) ?_
        intro w4 hg4 hS4
        try clear z
        have z := hS4
        replace br := Blk.gr br hg4
        replace b9 := Blk.gr b9 hg4
        replace bc := Blk.gr bc hg4
        replace bd := Blk.gr bd hg4
        refine each_cons ?_ (each_nil)
        refine wpOp_go (by rfl) (Eq.refl _) (by go_simp; done) ?_
        intro K hK
        go_simp
        try simp only [Act.put]
        have b4 := Blk.new w4 104 #[.string ⟨#[97, 110, 110]⟩, .int .i64 1, .string ⟨#[98, 111, 98]⟩, .int .i64 2, .string ⟨#[99, 105, 100]⟩, .int .i64 2, .string ⟨#[100, 111, 114, 97]⟩, .int .i64 3]
        have hal : Gr w4 (w4.alloc (.cells #[.string ⟨#[97, 110, 110]⟩, .int .i64 1, .string ⟨#[98, 111, 98]⟩, .int .i64 2, .string ⟨#[99, 105, 100]⟩, .int .i64 2, .string ⟨#[100, 111, 114, 97]⟩, .int .i64 3] 104)) := (Below.refl _ _).alloc (Nat.le_refl _) _
        replace z := And.intro (Below.trans z.1 (Below.mono hal (Below.size z.1))) (Blk.gr z.2 hal)
        replace br := Blk.gr br hal
        try replace b9 := Blk.gr b9 hal
        try replace bc := Blk.gr bc hal
        try replace bd := Blk.gr bd hal
        clear hal
        generalize w4.heap.size = g4 at *
        refine hK _ _ z ?_
        clear hK K
        refine wpW_det (t' := ?ct18R53) 18 (by rfl) (by kernel_rfl) (NQ_free _) (by kernel_rfl) ?cw18R53 ?ch18R53 ?ca18R53 (Eq.refl _) ?cH18R53
        case cw18R53 => (go_simp; done)
        case ch18R53 =>
          intro ds w' hS K hK
          go_simp
          try go_bits
          exact hK _ hS (Gr.refl _)
        case ca18R53 => (first | (simp [Act.put]; done) | (simp [Act.put, *]; done))
        try dsimp only
        refine wpW_branch [19] (by kernel_rfl) (by simp) ?_
        intro wz hg_wz hS_wz
        replace br := Blk.gr br hg_wz
        replace b4 := Blk.gr b4 hg_wz
        replace b9 := Blk.gr b9 hg_wz
        replace bc := Blk.gr bc hg_wz
        replace bd := Blk.gr bd hg_wz
        obtain ⟨z0, z1, z2, z3, z4, z5, z6, z7, z8, z9, z10, z11, z12, zf⟩ := blk13 br
        have lr := br.lt
        refine each_cons ?_ each_nil
        refine wpOp_go (by rfl) (Eq.refl _) (by go_simp; done) ?_
        intro K hK
        go_simp
        try simp only [Act.put]
        refine hK _ _ (And.intro (Below.set13 hS_wz.1 HGR.out (.slice (some ⟨g4, 0, none⟩) 4 4) (.string ⟨#[99]⟩) (.slice none 0 0) (.slice (some ⟨g9, 0, none⟩) 2 2) (.int .i64 1000) (.slice (some ⟨gc, 0, none⟩) 1 1) (.int .i64 0) (.int .i64 20) (.int .i64 0) (.int .i64 10) (.int .i64 0) (.int .i64 60) (.slice (some ⟨gd, 0, none⟩) 2 2)) (Blk.far13 hS_wz.2 (Blk.ne_ hS_wz.2 br (by decide)) (.slice (some ⟨g4, 0, none⟩) 4 4) (.string ⟨#[99]⟩) (.slice none 0 0) (.slice (some ⟨g9, 0, none⟩) 2 2) (.int .i64 1000) (.slice (some ⟨gc, 0, none⟩) 1 1) (.int .i64 0) (.int .i64 20) (.int .i64 0) (.int .i64 10) (.int .i64 0) (.int .i64 60) (.slice (some ⟨gd, 0, none⟩) 2 2))) ?_
        clear hK K z0 z1 z2 z3 z4 z5 z6 z7 z8 z9 z10 z11 z12 zf lr
        refine wpW_end (by kernel_rfl) ?_
        intro we hg hS
        unfold NQ
        dsimp only
        exact H.out _ _ _ _ _ _ _ _ _ _ _ _ _ _ _ _ _ _ _ _ we (HOK.out (Blk.gr (b4.far13 (Blk.ne_ b4 br (by decide)) (.slice (some ⟨g4, 0, none⟩) 4 4) (.string ⟨#[99]⟩) (.slice none 0 0) (.slice (some ⟨g9, 0, none⟩) 2 2) (.int .i64 1000) (.slice (some ⟨gc, 0, none⟩) 1 1) (.int .i64 0) (.int .i64 20) (.int .i64 0) (.int .i64 10) (.int .i64 0) (.int .i64 60) (.slice (some ⟨gd, 0, none⟩) 2 2)) hg) (Blk.gr (b9.far13 (Blk.ne_ b9 br (by decide)) (.slice (some ⟨g4, 0, none⟩) 4 4) (.string ⟨#[99]⟩) (.slice none 0 0) (.slice (some ⟨g9, 0, none⟩) 2 2) (.int .i64 1000) (.slice (some ⟨gc, 0, none⟩) 1 1) (.int .i64 0) (.int .i64 20) (.int .i64 0) (.int .i64 10) (.int .i64 0) (.int .i64 60) (.slice (some ⟨gd, 0, none⟩) 2 2)) hg) (Blk.gr (bc.far13 (Blk.ne_ bc br (by decide)) (.slice (some ⟨g4, 0, none⟩) 4 4) (.string ⟨#[99]⟩) (.slice none 0 0) (.slice (some ⟨g9, 0, none⟩) 2 2) (.int .i64 1000) (.slice (some ⟨gc, 0, none⟩) 1 1) (.int .i64 0) (.int .i64 20) (.int .i64 0) (.int .i64 10) (.int .i64 0) (.int .i64 60) (.slice (some ⟨gd, 0, none⟩) 2 2)) hg) (Blk.gr (bd.far13 (Blk.ne_ bd br (by decide)) (.slice (some ⟨g4, 0, none⟩) 4 4) (.string ⟨#[99]⟩) (.slice none 0 0) (.slice (some ⟨g9, 0, none⟩) 2 2) (.int .i64 1000) (.slice (some ⟨gc, 0, none⟩) 1 1) (.int .i64 0) (.int .i64 20) (.int .i64 0) (.int .i64 10) (.int .i64 0) (.int .i64 60) (.slice (some ⟨gd, 0, none⟩) 2 2)) hg)) (Blk.gr (br.set13 (.slice (some ⟨g4, 0, none⟩) 4 4) (.string ⟨#[99]⟩) (.slice none 0 0) (.slice (some ⟨g9, 0, none⟩) 2 2) (.int .i64 1000) (.slice (some ⟨gc, 0, none⟩) 1 1) (.int .i64 0) (.int .i64 20) (.int .i64 0) (.int .i64 10) (.int .i64 0) (.int .i64 60) (.slice (some ⟨gd, 0, none⟩) 2 2)) hg) hS.1
    · refine wpOp_go (by rfl) (Eq.refl _) (by go_simp; done) ?_
      intro K hK
      go_simp
      try simp only [Act.put]
      have bd := Blk.new w2 111 #[.int .i64 100, .int .i64 5, .int .i64 900, .int .i64 12]
      have hal : Gr w2 (w2.alloc (.cells #[.int .i64 100, .int .i64 5, .int .i64 900, .int .i64 12] 111)) := (Below.refl _ _).alloc (Nat.le_refl _) _
      replace z := And.intro (Below.trans z.1 (Below.mono hal (Below.size z.1))) (Blk.gr z.2 hal)
      replace br := Blk.gr br hal
      try replace b4 := Blk.gr b4 hal
      try replace b9 := Blk.gr b9 hal
      try replace bc := Blk.gr bc hal
      clear hal
      generalize w2.heap.size = gd at *
      refine hK _ _ z ?_
      clear hK K
      refine wpW_branch [4, 9] (by kernel_rfl) (by simp) ?_
      intro w3 hg3 hS3
      try clear z
      have z := hS3
      replace br := Blk.gr br hg3
      replace bc := Blk.gr bc hg3
      replace bd := Blk.gr bd hg3
      refine each_cons ?_ (each_cons ?_ (each_nil))
      · refine wpOp_go (by rfl) (Eq.refl _) (by go_simp; done) ?_
        intro K hK
        go_simp
        try simp only [Act.put]
        have b4 := Blk.new w3 104 #[.string ⟨#[97, 110, 110]⟩, .int .i64 1, .string ⟨#[98, 111, 98]⟩, .int .i64 2, .string ⟨#[99, 105, 100]⟩, .int .i64 2, .string ⟨#[100, 111, 114, 97]⟩, .int .i64 3]
        have hal : Gr w3 (w3.alloc (.cells #[.string ⟨#[97, 110, 110]⟩, .int .i64 1, .string ⟨#[98, 111, 98]⟩, .int .i64 2, .string ⟨#[99, 105, 100]⟩, .int .i64 2, .string ⟨#[100, 111, 114, 97]⟩, .int .i64 3] 104)) := (Below.refl _ _).alloc (Nat.le_refl _) _
        replace z := And.intro (Below.trans z.1 (Below.mono hal (Below.size z.1))) (Blk.gr z.2 hal)
        replace br := Blk.gr br hal
        try replace b9 := Blk.gr b9 hal
        try replace bc := Blk.gr bc hal
        try replace bd := Blk.gr bd hal
        clear hal
        generalize w3.heap.size = g4 at *
        refine hK _ _ z ?_
        clear hK K
        refine wpW_branch [9] (by kernel_rfl) (by simp) ?_
        intro w4 hg4 hS4
        try clear z
        have z := hS4
        replace br := Blk.gr br hg4
        replace b4 := Blk.gr b4 hg4
        replace bc := Blk.gr bc hg4
        replace bd := Blk.gr bd hg4
        refine each_cons ?_ (each_nil)
        refine wpOp_go (by rfl) (Eq.refl _) (by go_simp; done) ?_
        intro K hK
        go_simp
        try simp only [Act.put]
        have b9 := Blk.new w4 106 #[.int .i64 (weldLow 0), .int .i64 (weldLow 1), .int .i64 (weldLow 2), .int .i64 (weldLow 3), .int .i64 (weldLow 4), .int .i64 (weldLow 5), .int .i64 (weldLow 6), .int .i64 (weldLow 7), .int .i64 (weldLow 8), .int .i64 (weldLow 9), .int .i64 (weldLow 10), .int .i64 (weldLow 11), .int .i64 0, .int .i64 (weldTop 0), .int .i64 (weldTop 1), .int .i64 (weldTop 2), .int .i64 (weldTop 3), .int .i64 (weldTop 4), .int .i64 (weldTop 5), .int .i64 (weldTop 6), .int .i64 (weldTop 7), .int .i64 (weldTop 8), .int .i64 (weldTop 9), .int .i64 (weldTop 10), .int .i64 (weldTop 11), .int .i64 1]
        have hal : Gr w4 (w4.alloc (.cells #[.int .i64 (weldLow 0), .int .i64 (weldLow 1), .int .i64 (weldLow 2), .int .i64 (weldLow 3), .int .i64 (weldLow 4), .int .i64 (weldLow 5), .int .i64 (weldLow 6), .int .i64 (weldLow 7), .int .i64 (weldLow 8), .int .i64 (weldLow 9), .int .i64 (weldLow 10), .int .i64 (weldLow 11), .int .i64 0, .int .i64 (weldTop 0), .int .i64 (weldTop 1), .int .i64 (weldTop 2), .int .i64 (weldTop 3), .int .i64 (weldTop 4), .int .i64 (weldTop 5), .int .i64 (weldTop 6), .int .i64 (weldTop 7), .int .i64 (weldTop 8), .int .i64 (weldTop 9), .int .i64 (weldTop 10), .int .i64 (weldTop 11), .int .i64 1] 106)) := (Below.refl _ _).alloc (Nat.le_refl _) _
        replace z := And.intro (Below.trans z.1 (Below.mono hal (Below.size z.1))) (Blk.gr z.2 hal)
        replace br := Blk.gr br hal
        try replace b4 := Blk.gr b4 hal
        try replace bc := Blk.gr bc hal
        try replace bd := Blk.gr bd hal
        clear hal
        generalize w4.heap.size = g9 at *
        refine hK _ _ z ?_
        clear hK K
        refine wpW_det (t' := ?ct10R54) 10 (by rfl) (by kernel_rfl) (NQ_free _) (by kernel_rfl) ?cw10R54 ?ch10R54 ?ca10R54 (Eq.refl _) ?cH10R54
        case cw10R54 => (go_simp; done)
        case ch10R54 =>
          intro ds w' hS K hK
          go_simp
          try go_bits
          exact hK _ hS (Gr.refl _)
        case ca10R54 => (first | (simp [Act.put]; done) | (simp [Act.put, *]; done))
        try dsimp only
        refine wpW_det (t' := ?ct18R55) 18 (by rfl) (by kernel_rfl) (NQ_free _) (by kernel_rfl) ?cw18R55 ?ch18R55 ?ca18R55 (Eq.refl _) ?cH18R55
        case cw18R55 => (go_simp; done)
        case ch18R55 =>
          intro ds w' hS K hK
          go_simp
          try go_bits
          exact hK _ hS (Gr.refl _)
        case ca18R55 => (first | (simp [Act.put]; done) | (simp [Act.put, *]; done))
        try dsimp only
        refine wpW_branch [19] (by kernel_rfl) (by simp) ?_
        intro wz hg_wz hS_wz
        replace br := Blk.gr br hg_wz
        replace b4 := Blk.gr b4 hg_wz
        replace b9 := Blk.gr b9 hg_wz
        replace bc := Blk.gr bc hg_wz
        replace bd := Blk.gr bd hg_wz
        obtain ⟨z0, z1, z2, z3, z4, z5, z6, z7, z8, z9, z10, z11, z12, zf⟩ := blk13 br
        have lr := br.lt
        refine each_cons ?_ each_nil
        refine wpOp_go (by rfl) (Eq.refl _) (by go_simp; done) ?_
        intro K hK
        go_simp
        try simp only [Act.put]
        refine hK _ _ (And.intro (Below.set13 hS_wz.1 HGR.out (.slice (some ⟨g4, 0, none⟩) 4 4) (.string ⟨#[99]⟩) (.slice none 0 0) (.slice (some ⟨g9, 0, none⟩) 2 2) (.int .i64 1000) (.slice (some ⟨gc, 0, none⟩) 1 1) (.int .i64 0) (.int .i64 20) (.int .i64 0) (.int .i64 10) (.int .i64 0) (.int .i64 60) (.slice (some ⟨gd, 0, none⟩) 2 2)) (Blk.far13 hS_wz.2 (Blk.ne_ hS_wz.2 br (by decide)) (.slice (some ⟨g4, 0, none⟩) 4 4) (.string ⟨#[99]⟩) (.slice none 0 0) (.slice (some ⟨g9, 0, none⟩) 2 2) (.int .i64 1000) (.slice (some ⟨gc, 0, none⟩) 1 1) (.int .i64 0) (.int .i64 20) (.int .i64 0) (.int .i64 10) (.int .i64 0) (.int .i64 60) (.slice (some ⟨gd, 0, none⟩) 2 2))) ?_
        clear hK K z0 z1 z2 z3 z4 z5 z6 z7 z8 z9 z10 z11 z12 zf lr
        refine wpW_end (by kernel_rfl) ?_
        intro we hg hS
        unfold NQ
        dsimp only
        exact H.out _ _ _ _ _ _ _ _ _ _ _ _ _ _ _ _ _ _ _ _ we (HOK.out (Blk.gr (b4.far13 (Blk.ne_ b4 br (by decide)) (.slice (some ⟨g4, 0, none⟩) 4 4) (.string ⟨#[99]⟩) (.slice none 0 0) (.slice (some ⟨g9, 0, none⟩) 2 2) (.int .i64 1000) (.slice (some ⟨gc, 0, none⟩) 1 1) (.int .i64 0) (.int .i64 20) (.int .i64 0) (.int .i64 10) (.int .i64 0) (.int .i64 60) (.slice (some ⟨gd, 0, none⟩) 2 2)) hg) (Blk.gr (b9.far13 (Blk.ne_ b9 br (by decide)) (.slice (some ⟨g4, 0, none⟩) 4 4) (.string ⟨#[99]⟩) (.slice none 0 0) (.slice (some ⟨g9, 0, none⟩) 2 2) (.int .i64 1000) (.slice (some ⟨gc, 0, none⟩) 1 1) (.int .i64 0) (.int .i64 20) (.int .i64 0) (.int .i64 10) (.int .i64 0) (.int .i64 60) (.slice (some ⟨gd, 0, none⟩) 2 2)) hg) (Blk.gr (bc.far13 (Blk.ne_ bc br (by decide)) (.slice (some ⟨g4, 0, none⟩) 4 4) (.string ⟨#[99]⟩) (.slice none 0 0) (.slice (some ⟨g9, 0, none⟩) 2 2) (.int .i64 1000) (.slice (some ⟨gc, 0, none⟩) 1 1) (.int .i64 0) (.int .i64 20) (.int .i64 0) (.int .i64 10) (.int .i64 0) (.int .i64 60) (.slice (some ⟨gd, 0, none⟩) 2 2)) hg) (Blk.gr (bd.far13 (Blk.ne_ bd br (by decide)) (.slice (some ⟨g4, 0, none⟩) 4 4) (.string ⟨#[99]⟩) (.slice none 0 0) (.slice (some ⟨g9, 0, none⟩) 2 2) (.int .i64 1000) (.slice (some ⟨gc, 0, none⟩) 1 1) (.int .i64 0) (.int .i64 20) (.int .i64 0) (.int .i64 10) (.int .i64 0) (.int .i64 60) (.slice (some ⟨gd, 0, none⟩) 2 2)) hg)) (Blk.gr (br.set13 (.slice (some ⟨g4, 0, none⟩) 4 4) (.string ⟨#[99]⟩) (.slice none 0 0) (.slice (some ⟨g9, 0, none⟩) 2 2) (.int .i64 1000) (.slice (some ⟨gc, 0, none⟩) 1 1) (.int .i64 0) (.int .i64 20) (.int .i64 0) (.int .i64 10) (.int .i64 0) (.int .i64 60) (.slice (some ⟨gd, 0, none⟩) 2 2)) hg) hS.1
      · refine wpOp_go (by rfl) (Eq.refl _) (by go_simp; done) ?_
        intro K hK
        go_simp
        try simp only [Act.put]
        have b9 := Blk.new w3 106 #[.int .i64 (weldLow 0), .int .i64 (weldLow 1), .int .i64 (weldLow 2), .int .i64 (weldLow 3), .int .i64 (weldLow 4), .int .i64 (weldLow 5), .int .i64 (weldLow 6), .int .i64 (weldLow 7), .int .i64 (weldLow 8), .int .i64 (weldLow 9), .int .i64 (weldLow 10), .int .i64 (weldLow 11), .int .i64 0, .int .i64 (weldTop 0), .int .i64 (weldTop 1), .int .i64 (weldTop 2), .int .i64 (weldTop 3), .int .i64 (weldTop 4), .int .i64 (weldTop 5), .int .i64 (weldTop 6), .int .i64 (weldTop 7), .int .i64 (weldTop 8), .int .i64 (weldTop 9), .int .i64 (weldTop 10), .int .i64 (weldTop 11), .int .i64 1]
        have hal : Gr w3 (w3.alloc (.cells #[.int .i64 (weldLow 0), .int .i64 (weldLow 1), .int .i64 (weldLow 2), .int .i64 (weldLow 3), .int .i64 (weldLow 4), .int .i64 (weldLow 5), .int .i64 (weldLow 6), .int .i64 (weldLow 7), .int .i64 (weldLow 8), .int .i64 (weldLow 9), .int .i64 (weldLow 10), .int .i64 (weldLow 11), .int .i64 0, .int .i64 (weldTop 0), .int .i64 (weldTop 1), .int .i64 (weldTop 2), .int .i64 (weldTop 3), .int .i64 (weldTop 4), .int .i64 (weldTop 5), .int .i64 (weldTop 6), .int .i64 (weldTop 7), .int .i64 (weldTop 8), .int .i64 (weldTop 9), .int .i64 (weldTop 10), .int .i64 (weldTop 11), .int .i64 1] 106)) := (Below.refl _ _).alloc (Nat.le_refl _) _
        replace z := And.intro (Below.trans z.1 (Below.mono hal (Below.size z.1))) (Blk.gr z.2 hal)
        replace br := Blk.gr br hal
        try replace b4 := Blk.gr b4 hal
        try replace bc := Blk.gr bc hal
        try replace bd := Blk.gr bd hal
        clear hal
        generalize w3.heap.size = g9 at *
        refine hK _ _ z ?_
        clear hK K
        refine wpW_det (t' := ?ct10R56) 10 (by rfl) (by kernel_rfl) (NQ_free _) (by kernel_rfl) ?cw10R56 ?ch10R56 ?ca10R56 (Eq.refl _) ?cH10R56
        case cw10R56 => (go_simp; done)
        case ch10R56 =>
          intro ds w' hS K hK
          go_simp
          try go_bits
          exact hK _ hS (Gr.refl _)
        case ca10R56 => (first | (simp [Act.put]; done) | (simp [Act.put, *]; done))
        try dsimp only
        refine wpW_branch [4] (by kernel_rfl) (by simp) ?_
        intro w4 hg4 hS4
        try clear z
        have z := hS4
        replace br := Blk.gr br hg4
        replace b9 := Blk.gr b9 hg4
        replace bc := Blk.gr bc hg4
        replace bd := Blk.gr bd hg4
        refine each_cons ?_ (each_nil)
        refine wpOp_go (by rfl) (Eq.refl _) (by go_simp; done) ?_
        intro K hK
        go_simp
        try simp only [Act.put]
        have b4 := Blk.new w4 104 #[.string ⟨#[97, 110, 110]⟩, .int .i64 1, .string ⟨#[98, 111, 98]⟩, .int .i64 2, .string ⟨#[99, 105, 100]⟩, .int .i64 2, .string ⟨#[100, 111, 114, 97]⟩, .int .i64 3]
        have hal : Gr w4 (w4.alloc (.cells #[.string ⟨#[97, 110, 110]⟩, .int .i64 1, .string ⟨#[98, 111, 98]⟩, .int .i64 2, .string ⟨#[99, 105, 100]⟩, .int .i64 2, .string ⟨#[100, 111, 114, 97]⟩, .int .i64 3] 104)) := (Below.refl _ _).alloc (Nat.le_refl _) _
        replace z := And.intro (Below.trans z.1 (Below.mono hal (Below.size z.1))) (Blk.gr z.2 hal)
        replace br := Blk.gr br hal
        try replace b9 := Blk.gr b9 hal
        try replace bc := Blk.gr bc hal
        try replace bd := Blk.gr bd hal
        clear hal
        generalize w4.heap.size = g4 at *
        refine hK _ _ z ?_
        clear hK K
        refine wpW_det (t' := ?ct18R57) 18 (by rfl) (by kernel_rfl) (NQ_free _) (by kernel_rfl) ?cw18R57 ?ch18R57 ?ca18R57 (Eq.refl _) ?cH18R57
        case cw18R57 => (go_simp; done)
        case ch18R57 =>
          intro ds w' hS K hK
          go_simp
          try go_bits
          exact hK _ hS (Gr.refl _)
        case ca18R57 => (first | (simp [Act.put]; done) | (simp [Act.put, *]; done))
        try dsimp only
        refine wpW_branch [19] (by kernel_rfl) (by simp) ?_
        intro wz hg_wz hS_wz
        replace br := Blk.gr br hg_wz
        replace b4 := Blk.gr b4 hg_wz
        replace b9 := Blk.gr b9 hg_wz
        replace bc := Blk.gr bc hg_wz
        replace bd := Blk.gr bd hg_wz
        obtain ⟨z0, z1, z2, z3, z4, z5, z6, z7, z8, z9, z10, z11, z12, zf⟩ := blk13 br
        have lr := br.lt
        refine each_cons ?_ each_nil
        refine wpOp_go (by rfl) (Eq.refl _) (by go_simp; done) ?_
        intro K hK
        go_simp
        try simp only [Act.put]
        refine hK _ _ (And.intro (Below.set13 hS_wz.1 HGR.out (.slice (some ⟨g4, 0, none⟩) 4 4) (.string ⟨#[99]⟩) (.slice none 0 0) (.slice (some ⟨g9, 0, none⟩) 2 2) (.int .i64 1000) (.slice (some ⟨gc, 0, none⟩) 1 1) (.int .i64 0) (.int .i64 20) (.int .i64 0) (.int .i64 10) (.int .i64 0) (.int .i64 60) (.slice (some ⟨gd, 0, none⟩) 2 2)) (Blk.far13 hS_wz.2 (Blk.ne_ hS_wz.2 br (by decide)) (.slice (some ⟨g4, 0, none⟩) 4 4) (.string ⟨#[99]⟩) (.slice none 0 0) (.slice (some ⟨g9, 0, none⟩) 2 2) (.int .i64 1000) (.slice (some ⟨gc, 0, none⟩) 1 1) (.int .i64 0) (.int .i64 20) (.int .i64 0) (.int .i64 10) (.int .i64 0) (.int .i64 60) (.slice (some ⟨gd, 0, none⟩) 2 2))) ?_
        clear hK K z0 z1 z2 z3 z4 z5 z6 z7 z8 z9 z10 z11 z12 zf lr
        refine wpW_end (by kernel_rfl) ?_
        intro we hg hS
        unfold NQ
        dsimp only
        exact H.out _ _ _ _ _ _ _ _ _ _ _ _ _ _ _ _ _ _ _ _ we (HOK.out (Blk.gr (b4.far13 (Blk.ne_ b4 br (by decide)) (.slice (some ⟨g4, 0, none⟩) 4 4) (.string ⟨#[99]⟩) (.slice none 0 0) (.slice (some ⟨g9, 0, none⟩) 2 2) (.int .i64 1000) (.slice (some ⟨gc, 0, none⟩) 1 1) (.int .i64 0) (.int .i64 20) (.int .i64 0) (.int .i64 10) (.int .i64 0) (.int .i64 60) (.slice (some ⟨gd, 0, none⟩) 2 2)) hg) (Blk.gr (b9.far13 (Blk.ne_ b9 br (by decide)) (.slice (some ⟨g4, 0, none⟩) 4 4) (.string ⟨#[99]⟩) (.slice none 0 0) (.slice (some ⟨g9, 0, none⟩) 2 2) (.int .i64 1000) (.slice (some ⟨gc, 0, none⟩) 1 1) (.int .i64 0) (.int .i64 20) (.int .i64 0) (.int .i64 10) (.int .i64 0) (.int .i64 60) (.slice (some ⟨gd, 0, none⟩) 2 2)) hg) (Blk.gr (bc.far13 (Blk.ne_ bc br (by decide)) (.slice (some ⟨g4, 0, none⟩) 4 4) (.string ⟨#[99]⟩) (.slice none 0 0) (.slice (some ⟨g9, 0, none⟩) 2 2) (.int .i64 1000) (.slice (some ⟨gc, 0, none⟩) 1 1) (.int .i64 0) (.int .i64 20) (.int .i64 0) (.int .i64 10) (.int .i64 0) (.int .i64 60) (.slice (some ⟨gd, 0, none⟩) 2 2)) hg) (Blk.gr (bd.far13 (Blk.ne_ bd br (by decide)) (.slice (some ⟨g4, 0, none⟩) 4 4) (.string ⟨#[99]⟩) (.slice none 0 0) (.slice (some ⟨g9, 0, none⟩) 2 2) (.int .i64 1000) (.slice (some ⟨gc, 0, none⟩) 1 1) (.int .i64 0) (.int .i64 20) (.int .i64 0) (.int .i64 10) (.int .i64 0) (.int .i64 60) (.slice (some ⟨gd, 0, none⟩) 2 2)) hg)) (Blk.gr (br.set13 (.slice (some ⟨g4, 0, none⟩) 4 4) (.string ⟨#[99]⟩) (.slice none 0 0) (.slice (some ⟨g9, 0, none⟩) 2 2) (.int .i64 1000) (.slice (some ⟨gc, 0, none⟩) 1 1) (.int .i64 0) (.int .i64 20) (.int .i64 0) (.int .i64 10) (.int .i64 0) (.int .i64 60) (.slice (some ⟨gd, 0, none⟩) 2 2)) hg) hS.1
  · refine wpOp_go (by rfl) (Eq.refl _) (by go_simp; done) ?_
    intro K hK
    go_simp
    try simp only [Act.put]
    have bd := Blk.new w1 111 #[.int .i64 100, .int .i64 5, .int .i64 900, .int .i64 12]
    have hal : Gr w1 (w1.alloc (.cells #[.int .i64 100, .int .i64 5, .int .i64 900, .int .i64 12] 111)) := (Below.refl _ _).alloc (Nat.le_refl _) _
    replace z := And.intro (Below.trans z.1 (Below.mono hal (Below.size z.1))) (Blk.gr z.2 hal)
    replace br := Blk.gr br hal
    try replace b4 := Blk.gr b4 hal
    try replace b9 := Blk.gr b9 hal
    try replace bc := Blk.gr bc hal
    clear hal
    generalize w1.heap.size = gd at *
    refine hK _ _ z ?_
    clear hK K
    refine wpW_branch [4, 9, 12] (by kernel_rfl) (by simp) ?_
    intro w2 hg2 hS2
    try clear z
    have z := hS2
    replace br := Blk.gr br hg2
    replace bd := Blk.gr bd hg2
    refine each_cons ?_ (each_cons ?_ (each_cons ?_ (each_nil)))
    · refine wpOp_go (by rfl) (Eq.refl _) (by go_simp; done) ?_
      intro K hK
      go_simp
      try simp only [Act.put]
      have b4 := Blk.new w2 104 #[.string ⟨#[97, 110, 110]⟩, .int .i64 1, .string ⟨#[98, 111, 98]⟩, .int .i64 2, .string ⟨#[99, 105, 100]⟩, .int .i64 2, .string ⟨#[100, 111, 114, 97]⟩, .int .i64 3]
      have hal : Gr w2 (w2.alloc (.cells #[.string ⟨#[97, 110, 110]⟩, .int .i64 1, .string ⟨#[98, 111, 98]⟩, .int .i64 2, .string ⟨#[99, 105, 100]⟩, .int .i64 2, .string ⟨#[100, 111, 114, 97]⟩, .int .i64 3] 104)) := (Below.refl _ _).alloc (Nat.le_refl _) _
      replace z := And.intro (Below.trans z.1 (Below.mono hal (Below.size z.1))) (Blk.gr z.2 hal)
      replace br := Blk.gr br hal
      try replace b9 := Blk.gr b9 hal
      try replace bc := Blk.gr bc hal
      try replace bd := Blk.gr bd hal
      clear hal
      generalize w2.heap.size = g4 at *
      refine hK _ _ z ?_
      clear hK K
      refine wpW_branch [9, 12] (by kernel_rfl) (by simp) ?_
      intro w3 hg3 hS3
      try clear z
      have z := hS3
      replace br := Blk.gr br hg3
      replace b4 := Blk.gr b4 hg3
      replace bd := Blk.gr bd hg3
      refine each_cons ?_ (each_cons ?_ (each_nil))
      · refine wpOp_go (by rfl) (Eq.refl _) (by go_simp; done) ?_
        intro K hK
        go_simp
        try simp only [Act.put]
        have b9 := Blk.new w3 106 #[.int .i64 (weldLow 0), .int .i64 (weldLow 1), .int .i64 (weldLow 2), .int .i64 (weldLow 3), .int .i64 (weldLow 4), .int .i64 (weldLow 5), .int .i64 (weldLow 6), .int .i64 (weldLow 7), .int .i64 (weldLow 8), .int .i64 (weldLow 9), .int .i64 (weldLow 10), .int .i64 (weldLow 11), .int .i64 0, .int .i64 (weldTop 0), .int .i64 (weldTop 1), .int .i64 (weldTop 2), .int .i64 (weldTop 3), .int .i64 (weldTop 4), .int .i64 (weldTop 5), .int .i64 (weldTop 6), .int .i64 (weldTop 7), .int .i64 (weldTop 8), .int .i64 (weldTop 9), .int .i64 (weldTop 10), .int .i64 (weldTop 11), .int .i64 1]
        have hal : Gr w3 (w3.alloc (.cells #[.int .i64 (weldLow 0), .int .i64 (weldLow 1), .int .i64 (weldLow 2), .int .i64 (weldLow 3), .int .i64 (weldLow 4), .int .i64 (weldLow 5), .int .i64 (weldLow 6), .int .i64 (weldLow 7), .int .i64 (weldLow 8), .int .i64 (weldLow 9), .int .i64 (weldLow 10), .int .i64 (weldLow 11), .int .i64 0, .int .i64 (weldTop 0), .int .i64 (weldTop 1), .int .i64 (weldTop 2), .int .i64 (weldTop 3), .int .i64 (weldTop 4), .int .i64 (weldTop 5), .int .i64 (weldTop 6), .int .i64 (weldTop 7), .int .i64 (weldTop 8), .int .i64 (weldTop 9), .int .i64 (weldTop 10), .int .i64 (weldTop 11), .int .i64 1] 106)) := (Below.refl _ _).alloc (Nat.le_refl _) _
        replace z := And.intro (Below.trans z.1 (Below.mono hal (Below.size z.1))) (Blk.gr z.2 hal)
        replace br := Blk.gr br hal
        try replace b4 := Blk.gr b4 hal
        try replace bc := Blk.gr bc hal
        try replace bd := Blk.gr bd hal
        clear hal
        generalize w3.heap.size = g9 at *
        refine hK _ _ z ?_
        clear hK K
        refine wpW_det (t' := ?ct10R58) 10 (by rfl) (by kernel_rfl) (NQ_free _) (by kernel_rfl) ?cw10R58 ?ch10R58 ?ca10R58 (Eq.refl _) ?cH10R58
        case cw10R58 => (go_simp; done)
        case ch10R58 =>
          intro ds w' hS K hK
          go_simp
          try go_bits
          exact hK _ hS (Gr.refl _)
        case ca10R58 => (first | (simp [Act.put]; done) | (simp [Act.put, *]; done))
        try dsimp only
        refine wpW_branch [12] (by kernel_rfl) (by simp) ?_
        intro w4 hg4 hS4
        try clear z
        have z := hS4
        replace br := Blk.gr br hg4
        replace b4 := Blk.gr b4 hg4
        replace b9 := Blk.gr b9 hg4
        replace bd := Blk.gr bd hg4
        refine each_cons ?_ (each_nil)
        refine wpOp_go (by rfl) (Eq.refl _) (by go_simp; done) ?_
        intro K hK
        go_simp
        try simp only [Act.put]
        have bc := Blk.new w4 109 #[.string ⟨#[103, 97, 105, 110]⟩, .int .i64 100, .int .i64 50, .slice none 0 0]
        have hal : Gr w4 (w4.alloc (.cells #[.string ⟨#[103, 97, 105, 110]⟩, .int .i64 100, .int .i64 50, .slice none 0 0] 109)) := (Below.refl _ _).alloc (Nat.le_refl _) _
        replace z := And.intro (Below.trans z.1 (Below.mono hal (Below.size z.1))) (Blk.gr z.2 hal)
        replace br := Blk.gr br hal
        try replace b4 := Blk.gr b4 hal
        try replace b9 := Blk.gr b9 hal
        try replace bd := Blk.gr bd hal
        clear hal
        generalize w4.heap.size = gc at *
        refine hK _ _ z ?_
        clear hK K
        refine wpW_det (t' := ?ct18R59) 18 (by rfl) (by kernel_rfl) (NQ_free _) (by kernel_rfl) ?cw18R59 ?ch18R59 ?ca18R59 (Eq.refl _) ?cH18R59
        case cw18R59 => (go_simp; done)
        case ch18R59 =>
          intro ds w' hS K hK
          go_simp
          try go_bits
          exact hK _ hS (Gr.refl _)
        case ca18R59 => (first | (simp [Act.put]; done) | (simp [Act.put, *]; done))
        try dsimp only
        refine wpW_branch [19] (by kernel_rfl) (by simp) ?_
        intro wz hg_wz hS_wz
        replace br := Blk.gr br hg_wz
        replace b4 := Blk.gr b4 hg_wz
        replace b9 := Blk.gr b9 hg_wz
        replace bc := Blk.gr bc hg_wz
        replace bd := Blk.gr bd hg_wz
        obtain ⟨z0, z1, z2, z3, z4, z5, z6, z7, z8, z9, z10, z11, z12, zf⟩ := blk13 br
        have lr := br.lt
        refine each_cons ?_ each_nil
        refine wpOp_go (by rfl) (Eq.refl _) (by go_simp; done) ?_
        intro K hK
        go_simp
        try simp only [Act.put]
        refine hK _ _ (And.intro (Below.set13 hS_wz.1 HGR.out (.slice (some ⟨g4, 0, none⟩) 4 4) (.string ⟨#[99]⟩) (.slice none 0 0) (.slice (some ⟨g9, 0, none⟩) 2 2) (.int .i64 1000) (.slice (some ⟨gc, 0, none⟩) 1 1) (.int .i64 0) (.int .i64 20) (.int .i64 0) (.int .i64 10) (.int .i64 0) (.int .i64 60) (.slice (some ⟨gd, 0, none⟩) 2 2)) (Blk.far13 hS_wz.2 (Blk.ne_ hS_wz.2 br (by decide)) (.slice (some ⟨g4, 0, none⟩) 4 4) (.string ⟨#[99]⟩) (.slice none 0 0) (.slice (some ⟨g9, 0, none⟩) 2 2) (.int .i64 1000) (.slice (some ⟨gc, 0, none⟩) 1 1) (.int .i64 0) (.int .i64 20) (.int .i64 0) (.int .i64 10) (.int .i64 0) (.int .i64 60) (.slice (some ⟨gd, 0, none⟩) 2 2))) ?_
        clear hK K z0 z1 z2 z3 z4 z5 z6 z7 z8 z9 z10 z11 z12 zf lr
        refine wpW_end (by kernel_rfl) ?_
        intro we hg hS
        unfold NQ
        dsimp only
        exact H.out _ _ _ _ _ _ _ _ _ _ _ _ _ _ _ _ _ _ _ _ we (HOK.out (Blk.gr (b4.far13 (Blk.ne_ b4 br (by decide)) (.slice (some ⟨g4, 0, none⟩) 4 4) (.string ⟨#[99]⟩) (.slice none 0 0) (.slice (some ⟨g9, 0, none⟩) 2 2) (.int .i64 1000) (.slice (some ⟨gc, 0, none⟩) 1 1) (.int .i64 0) (.int .i64 20) (.int .i64 0) (.int .i64 10) (.int .i64 0) (.int .i64 60) (.slice (some ⟨gd, 0, none⟩) 2 2)) hg) (Blk.gr (b9.far13 (Blk.ne_ b9 br (by decide)) (.slice (some ⟨g4, 0, none⟩) 4 4) (.string ⟨#[99]⟩) (.slice none 0 0) (.slice (some ⟨g9, 0, none⟩) 2 2) (.int .i64 1000) (.slice (some ⟨gc, 0, none⟩) 1 1) (.int .i64 0) (.int .i64 20) (.int .i64 0) (.int .i64 10) (.int .i64 0) (.int .i64 60) (.slice (some ⟨gd, 0, none⟩) 2 2)) hg) (Blk.gr (bc.far13 (Blk.ne_ bc br (by decide)) (.slice (some ⟨g4, 0, none⟩) 4 4) (.string ⟨#[99]⟩) (.slice none 0 0) (.slice (some ⟨g9, 0, none⟩) 2 2) (.int .i64 1000) (.slice (some ⟨gc, 0, none⟩) 1 1) (.int .i64 0) (.int .i64 20) (.int .i64 0) (.int .i64 10) (.int .i64 0) (.int .i64 60) (.slice (some ⟨gd, 0, none⟩) 2 2)) hg) (Blk.gr (bd.far13 (Blk.ne_ bd br (by decide)) (.slice (some ⟨g4, 0, none⟩) 4 4) (.string ⟨#[99]⟩) (.slice none 0 0) (.slice (some ⟨g9, 0, none⟩) 2 2) (.int .i64 1000) (.slice (some ⟨gc, 0, none⟩) 1 1) (.int .i64 0) (.int .i64 20) (.int .i64 0) (.int .i64 10) (.int .i64 0) (.int .i64 60) (.slice (some ⟨gd, 0, none⟩) 2 2)) hg)) (Blk.gr (br.set13 (.slice (some ⟨g4, 0, none⟩) 4 4) (.string ⟨#[99]⟩) (.slice none 0 0) (.slice (some ⟨g9, 0, none⟩) 2 2) (.int .i64 1000) (.slice (some ⟨gc, 0, none⟩) 1 1) (.int .i64 0) (.int .i64 20) (.int .i64 0) (.int .i64 10) (.int .i64 0) (.int .i64 60) (.slice (some ⟨gd, 0, none⟩) 2 2)) hg) hS.1
      · refine wpOp_go (by rfl) (Eq.refl _) (by go_simp; done) ?_
        intro K hK
        go_simp
        try simp only [Act.put]
        have bc := Blk.new w3 109 #[.string ⟨#[103, 97, 105, 110]⟩, .int .i64 100, .int .i64 50, .slice none 0 0]
        have hal : Gr w3 (w3.alloc (.cells #[.string ⟨#[103, 97, 105, 110]⟩, .int .i64 100, .int .i64 50, .slice none 0 0] 109)) := (Below.refl _ _).alloc (Nat.le_refl _) _
        replace z := And.intro (Below.trans z.1 (Below.mono hal (Below.size z.1))) (Blk.gr z.2 hal)
        replace br := Blk.gr br hal
        try replace b4 := Blk.gr b4 hal
        try replace b9 := Blk.gr b9 hal
        try replace bd := Blk.gr bd hal
        clear hal
        generalize w3.heap.size = gc at *
        refine hK _ _ z ?_
        clear hK K
        refine wpW_branch [9] (by kernel_rfl) (by simp) ?_
        intro w4 hg4 hS4
        try clear z
        have z := hS4
        replace br := Blk.gr br hg4
        replace b4 := Blk.gr b4 hg4
        replace bc := Blk.gr bc hg4
        replace bd := Blk.gr bd hg4
        refine each_cons ?_ (each_nil)
        refine wpOp_go (by rfl) (Eq.refl _) (by go_simp; done) ?_
        intro K hK
        go_simp
        try simp only [Act.put]
        have b9 := Blk.new w4 106 #[.int .i64 (weldLow 0), .int .i64 (weldLow 1), .int .i64 (weldLow 2), .int .i64 (weldLow 3), .int .i64 (weldLow 4), .int .i64 (weldLow 5), .int .i64 (weldLow 6), .int .i64 (weldLow 7), .int .i64 (weldLow 8), .int .i64 (weldLow 9), .int .i64 (weldLow 10), .int .i64 (weldLow 11), .int .i64 0, .int .i64 (weldTop 0), .int .i64 (weldTop 1), .int .i64 (weldTop 2), .int .i64 (weldTop 3), .int .i64 (weldTop 4), .int .i64 (weldTop 5), .int .i64 (weldTop 6), .int .i64 (weldTop 7), .int .i64 (weldTop 8), .int .i64 (weldTop 9), .int .i64 (weldTop 10), .int .i64 (weldTop 11), .int .i64 1]
        have hal : Gr w4 (w4.alloc (.cells #[.int .i64 (weldLow 0), .int .i64 (weldLow 1), .int .i64 (weldLow 2), .int .i64 (weldLow 3), .int .i64 (weldLow 4), .int .i64 (weldLow 5), .int .i64 (weldLow 6), .int .i64 (weldLow 7), .int .i64 (weldLow 8), .int .i64 (weldLow 9), .int .i64 (weldLow 10), .int .i64 (weldLow 11), .int .i64 0, .int .i64 (weldTop 0), .int .i64 (weldTop 1), .int .i64 (weldTop 2), .int .i64 (weldTop 3), .int .i64 (weldTop 4), .int .i64 (weldTop 5), .int .i64 (weldTop 6), .int .i64 (weldTop 7), .int .i64 (weldTop 8), .int .i64 (weldTop 9), .int .i64 (weldTop 10), .int .i64 (weldTop 11), .int .i64 1] 106)) := (Below.refl _ _).alloc (Nat.le_refl _) _
        replace z := And.intro (Below.trans z.1 (Below.mono hal (Below.size z.1))) (Blk.gr z.2 hal)
        replace br := Blk.gr br hal
        try replace b4 := Blk.gr b4 hal
        try replace bc := Blk.gr bc hal
        try replace bd := Blk.gr bd hal
        clear hal
        generalize w4.heap.size = g9 at *
        refine hK _ _ z ?_
        clear hK K
        refine wpW_det (t' := ?ct10R60) 10 (by rfl) (by kernel_rfl) (NQ_free _) (by kernel_rfl) ?cw10R60 ?ch10R60 ?ca10R60 (Eq.refl _) ?cH10R60
        case cw10R60 => (go_simp; done)
        case ch10R60 =>
          intro ds w' hS K hK
          go_simp
          try go_bits
          exact hK _ hS (Gr.refl _)
        case ca10R60 => (first | (simp [Act.put]; done) | (simp [Act.put, *]; done))
        try dsimp only
        refine wpW_det (t' := ?ct18R61) 18 (by rfl) (by kernel_rfl) (NQ_free _) (by kernel_rfl) ?cw18R61 ?ch18R61 ?ca18R61 (Eq.refl _) ?cH18R61
        case cw18R61 => (go_simp; done)
        case ch18R61 =>
          intro ds w' hS K hK
          go_simp
          try go_bits
          exact hK _ hS (Gr.refl _)
        case ca18R61 => (first | (simp [Act.put]; done) | (simp [Act.put, *]; done))
        try dsimp only
        refine wpW_branch [19] (by kernel_rfl) (by simp) ?_
        intro wz hg_wz hS_wz
        replace br := Blk.gr br hg_wz
        replace b4 := Blk.gr b4 hg_wz
        replace b9 := Blk.gr b9 hg_wz
        replace bc := Blk.gr bc hg_wz
        replace bd := Blk.gr bd hg_wz
        obtain ⟨z0, z1, z2, z3, z4, z5, z6, z7, z8, z9, z10, z11, z12, zf⟩ := blk13 br
        have lr := br.lt
        refine each_cons ?_ each_nil
        refine wpOp_go (by rfl) (Eq.refl _) (by go_simp; done) ?_
        intro K hK
        go_simp
        try simp only [Act.put]
        refine hK _ _ (And.intro (Below.set13 hS_wz.1 HGR.out (.slice (some ⟨g4, 0, none⟩) 4 4) (.string ⟨#[99]⟩) (.slice none 0 0) (.slice (some ⟨g9, 0, none⟩) 2 2) (.int .i64 1000) (.slice (some ⟨gc, 0, none⟩) 1 1) (.int .i64 0) (.int .i64 20) (.int .i64 0) (.int .i64 10) (.int .i64 0) (.int .i64 60) (.slice (some ⟨gd, 0, none⟩) 2 2)) (Blk.far13 hS_wz.2 (Blk.ne_ hS_wz.2 br (by decide)) (.slice (some ⟨g4, 0, none⟩) 4 4) (.string ⟨#[99]⟩) (.slice none 0 0) (.slice (some ⟨g9, 0, none⟩) 2 2) (.int .i64 1000) (.slice (some ⟨gc, 0, none⟩) 1 1) (.int .i64 0) (.int .i64 20) (.int .i64 0) (.int .i64 10) (.int .i64 0) (.int .i64 60) (.slice (some ⟨gd, 0, none⟩) 2 2))) ?_
        clear hK K z0 z1 z2 z3 z4 z5 z6 z7 z8 z9 z10 z11 z12 zf lr
        refine wpW_end (by kernel_rfl) ?_
        intro we hg hS
        unfold NQ
        dsimp only
        exact H.out _ _ _ _ _ _ _ _ _ _ _ _ _ _ _ _ _ _ _ _ we (HOK.out (Blk.gr (b4.far13 (Blk.ne_ b4 br (by decide)) (.slice (some ⟨g4, 0, none⟩) 4 4) (.string ⟨#[99]⟩) (.slice none 0 0) (.slice (some ⟨g9, 0, none⟩) 2 2) (.int .i64 1000) (.slice (some ⟨gc, 0, none⟩) 1 1) (.int .i64 0) (.int .i64 20) (.int .i64 0) (.int .i64 10) (.int .i64 0) (.int .i64 60) (.slice (some ⟨gd, 0, none⟩) 2 2)) hg) (Blk.gr (b9.far13 (Blk.ne_ b9 br (by decide)) (.slice (some ⟨g4, 0, none⟩) 4 4) (.string ⟨#[99]⟩) (.slice none 0 0) (.slice (some ⟨g9, 0, none⟩) 2 2) (.int .i64 1000) (.slice (some ⟨gc, 0, none⟩) 1 1) (.int .i64 0) (.int .i64 20) (.int .i64 0) (.int .i64 10) (.int .i64 0) (.int .i64 60) (.slice (some ⟨gd, 0, none⟩) 2 2)) hg) (Blk.gr (bc.far13 (Blk.ne_ bc br (by decide)) (.slice (some ⟨g4, 0, none⟩) 4 4) (.string ⟨#[99]⟩) (.slice none 0 0) (.slice (some ⟨g9, 0, none⟩) 2 2) (.int .i64 1000) (.slice (some ⟨gc, 0, none⟩) 1 1) (.int .i64 0) (.int .i64 20) (.int .i64 0) (.int .i64 10) (.int .i64 0) (.int .i64 60) (.slice (some ⟨gd, 0, none⟩) 2 2)) hg) (Blk.gr (bd.far13 (Blk.ne_ bd br (by decide)) (.slice (some ⟨g4, 0, none⟩) 4 4) (.string ⟨#[99]⟩) (.slice none 0 0) (.slice (some ⟨g9, 0, none⟩) 2 2) (.int .i64 1000) (.slice (some ⟨gc, 0, none⟩) 1 1) (.int .i64 0) (.int .i64 20) (.int .i64 0) (.int .i64 10) (.int .i64 0) (.int .i64 60) (.slice (some ⟨gd, 0, none⟩) 2 2)) hg)) (Blk.gr (br.set13 (.slice (some ⟨g4, 0, none⟩) 4 4) (.string ⟨#[99]⟩) (.slice none 0 0) (.slice (some ⟨g9, 0, none⟩) 2 2) (.int .i64 1000) (.slice (some ⟨gc, 0, none⟩) 1 1) (.int .i64 0) (.int .i64 20) (.int .i64 0) (.int .i64 10) (.int .i64 0) (.int .i64 60) (.slice (some ⟨gd, 0, none⟩) 2 2)) hg) hS.1
    · refine wpOp_go (by rfl) (Eq.refl _) (by go_simp; done) ?_
      intro K hK
      go_simp
      try simp only [Act.put]
      have b9 := Blk.new w2 106 #[.int .i64 (weldLow 0), .int .i64 (weldLow 1), .int .i64 (weldLow 2), .int .i64 (weldLow 3), .int .i64 (weldLow 4), .int .i64 (weldLow 5), .int .i64 (weldLow 6), .int .i64 (weldLow 7), .int .i64 (weldLow 8), .int .i64 (weldLow 9), .int .i64 (weldLow 10), .int .i64 (weldLow 11), .int .i64 0, .int .i64 (weldTop 0), .int .i64 (weldTop 1), .int .i64 (weldTop 2), .int .i64 (weldTop 3), .int .i64 (weldTop 4), .int .i64 (weldTop 5), .int .i64 (weldTop 6), .int .i64 (weldTop 7), .int .i64 (weldTop 8), .int .i64 (weldTop 9), .int .i64 (weldTop 10), .int .i64 (weldTop 11), .int .i64 1]
      have hal : Gr w2 (w2.alloc (.cells #[.int .i64 (weldLow 0), .int .i64 (weldLow 1), .int .i64 (weldLow 2), .int .i64 (weldLow 3), .int .i64 (weldLow 4), .int .i64 (weldLow 5), .int .i64 (weldLow 6), .int .i64 (weldLow 7), .int .i64 (weldLow 8), .int .i64 (weldLow 9), .int .i64 (weldLow 10), .int .i64 (weldLow 11), .int .i64 0, .int .i64 (weldTop 0), .int .i64 (weldTop 1), .int .i64 (weldTop 2), .int .i64 (weldTop 3), .int .i64 (weldTop 4), .int .i64 (weldTop 5), .int .i64 (weldTop 6), .int .i64 (weldTop 7), .int .i64 (weldTop 8), .int .i64 (weldTop 9), .int .i64 (weldTop 10), .int .i64 (weldTop 11), .int .i64 1] 106)) := (Below.refl _ _).alloc (Nat.le_refl _) _
      replace z := And.intro (Below.trans z.1 (Below.mono hal (Below.size z.1))) (Blk.gr z.2 hal)
      replace br := Blk.gr br hal
      try replace b4 := Blk.gr b4 hal
      try replace bc := Blk.gr bc hal
      try replace bd := Blk.gr bd hal
      clear hal
      generalize w2.heap.size = g9 at *
      refine hK _ _ z ?_
      clear hK K
      refine wpW_det (t' := ?ct10R62) 10 (by rfl) (by kernel_rfl) (NQ_free _) (by kernel_rfl) ?cw10R62 ?ch10R62 ?ca10R62 (Eq.refl _) ?cH10R62
      case cw10R62 => (go_simp; done)
      case ch10R62 =>
        intro ds w' hS K hK
        go_simp
        try go_bits
        exact hK _ hS (Gr.refl _)
      case ca10R62 => (first | (simp [Act.put]; done) | (simp [Act.put, *]; done))
      try dsimp only
      refine wpW_branch [4, 12] (by kernel_rfl) (by simp) ?_
      intro w3 hg3 hS3
      try clear z
      have z := hS3
      replace br := Blk.gr br hg3
      replace b9 := Blk.gr b9 hg3
      replace bd := Blk.gr bd hg3
      refine each_cons ?_ (each_cons ?_ (each_nil))
      · refine wpOp_go (by rfl) (Eq.refl _) (by go_simp; done) ?_
        intro K hK
        go_simp
        try simp only [Act.put]
        have b4 := Blk.new w3 104 #[.string ⟨#[97, 110, 110]⟩, .int .i64 1, .string ⟨#[98, 111, 98]⟩, .int .i64 2, .string ⟨#[99, 105, 100]⟩, .int .i64 2, .string ⟨#[100, 111, 114, 97]⟩, .int .i64 3]
        have hal : Gr w3 (w3.alloc (.cells #[.string ⟨#[97, 110, 110]⟩, .int .i64 1, .string ⟨#[98, 111, 98]⟩, .int .i64 2, .string ⟨#[99, 105, 100]⟩, .int .i64 2, .string ⟨#[100, 111, 114, 97]⟩, .int .i64 3] 104)) := (Below.refl _ _).alloc (Nat.le_refl _) _
        replace z := And.intro (Below.trans z.1 (Below.mono hal (Below.size z.1))) (Blk.gr z.2 hal)
        replace br := Blk.gr br hal
        try replace b9 := Blk.gr b9 hal
        try replace bc := Blk.gr bc hal
        try replace bd := Blk.gr bd hal
        clear hal
        generalize w3.heap.size = g4 at *
        refine hK _ _ z ?_
        clear hK K
        refine wpW_branch [12] (by kernel_rfl) (by simp) ?_
        intro w4 hg4 hS4
        try clear z
        have z := hS4
        replace br := Blk.gr br hg4
        replace b4 := Blk.gr b4 hg4
        replace b9 := Blk.gr b9 hg4
        replace bd := Blk.gr bd hg4
        refine each_cons ?_ (each_nil)
        refine wpOp_go (by rfl) (Eq.refl _) (by go_simp; done) ?_
        intro K hK
        go_simp
        try simp only [Act.put]
        have bc := Blk.new w4 109 #[.string ⟨#[103, 97, 105, 110]⟩, .int .i64 100, .int .i64 50, .slice none 0 0]
        have hal : Gr w4 (w4.alloc (.cells #[.string ⟨#[103, 97, 105, 110]⟩, .int .i64 100, .int .i64 50, .slice none 0 0] 109)) := (Below.refl _ _).alloc (Nat.le_refl _) _
        replace z := And.intro (Below.trans z.1 (Below.mono hal (Below.size z.1))) (Blk.gr z.2 hal)
        replace br := Blk.gr br hal
        try replace b4 := Blk.gr b4 hal
        try replace b9 := Blk.gr b9 hal
        try replace bd := Blk.gr bd hal
        clear hal
        generalize w4.heap.size = gc at *
        refine hK _ _ z ?_
        clear hK K
        refine wpW_det (t' := ?ct18R63) 18 (by rfl) (by kernel_rfl) (NQ_free _) (by kernel_rfl) ?cw18R63 ?ch18R63 ?ca18R63 (Eq.refl _) ?cH18R63
        case cw18R63 => (go_simp; done)
        case ch18R63 =>
          intro ds w' hS K hK
          go_simp
          try go_bits
          exact hK _ hS (Gr.refl _)
        case ca18R63 => (first | (simp [Act.put]; done) | (simp [Act.put, *]; done))
        try dsimp only
        refine wpW_branch [19] (by kernel_rfl) (by simp) ?_
        intro wz hg_wz hS_wz
        replace br := Blk.gr br hg_wz
        replace b4 := Blk.gr b4 hg_wz
        replace b9 := Blk.gr b9 hg_wz
        replace bc := Blk.gr bc hg_wz
        replace bd := Blk.gr bd hg_wz
        obtain ⟨z0, z1, z2, z3, z4, z5, z6, z7, z8, z9, z10, z11, z12, zf⟩ := blk13 br
        have lr := br.lt
        refine each_cons ?_ each_nil
        refine wpOp_go (by rfl) (Eq.refl _) (by go_simp; done) ?_
        intro K hK
        go_simp
        try simp only [Act.put]
        refine hK _ _ (And.intro (Below.set13 hS_wz.1 HGR.out (.slice (some ⟨g4, 0, none⟩) 4 4) (.string ⟨#[99]⟩) (.slice none 0 0) (.slice (some ⟨g9, 0, none⟩) 2 2) (.int .i64 1000) (.slice (some ⟨gc, 0, none⟩) 1 1) (.int .i64 0) (.int .i64 20) (.int .i64 0) (.int .i64 10) (.int .i64 0) (.int .i64 60) (.slice (some ⟨gd, 0, none⟩) 2 2)) (Blk.far13 hS_wz.2 (Blk.ne_ hS_wz.2 br (by decide)) (.slice (some ⟨g4, 0, none⟩) 4 4) (.string ⟨#[99]⟩) (.slice none 0 0) (.slice (some ⟨g9, 0, none⟩) 2 2) (.int .i64 1000) (.slice (some ⟨gc, 0, none⟩) 1 1) (.int .i64 0) (.int .i64 20) (.int .i64 0) (.int .i64 10) (.int .i64 0) (.int .i64 60) (.slice (some ⟨gd, 0, none⟩) 2 2))) ?_
        clear hK K z0 z1 z2 z3 z4 z5 z6 z7 z8 z9 z10 z11 z12 zf lr
        refine wpW_end (by kernel_rfl) ?_
        intro we hg hS
        unfold NQ
        dsimp only
        exact H.out _ _ _ _ _ _ _ _ _ _ _ _ _ _ _ _ _ _ _ _ we (HOK.out (Blk.gr (b4.far13 (Blk.ne_ b4 br (by decide)) (.slice (some ⟨g4, 0, none⟩) 4 4) (.string ⟨#[99]⟩) (.slice none 0 0) (.slice (some ⟨g9, 0, none⟩) 2 2) (.int .i64 1000) (.slice (some ⟨gc, 0, none⟩) 1 1) (.int .i64 0) (.int .i64 20) (.int .i64 0) (.int .i64 10) (.int .i64 0) (.int .i64 60) (.slice (some ⟨gd, 0, none⟩) 2 2)) hg) (Blk.gr (b9.far13 (Blk.ne_ b9 br (by decide)) (.slice (some ⟨g4, 0, none⟩) 4 4) (.string ⟨#[99]⟩) (.slice none 0 0) (.slice (some ⟨g9, 0, none⟩) 2 2) (.int .i64 1000) (.slice (some ⟨gc, 0, none⟩) 1 1) (.int .i64 0) (.int .i64 20) (.int .i64 0) (.int .i64 10) (.int .i64 0) (.int .i64 60) (.slice (some ⟨gd, 0, none⟩) 2 2)) hg) (Blk.gr (bc.far13 (Blk.ne_ bc br (by decide)) (.slice (some ⟨g4, 0, none⟩) 4 4) (.string ⟨#[99]⟩) (.slice none 0 0) (.slice (some ⟨g9, 0, none⟩) 2 2) (.int .i64 1000) (.slice (some ⟨gc, 0, none⟩) 1 1) (.int .i64 0) (.int .i64 20) (.int .i64 0) (.int .i64 10) (.int .i64 0) (.int .i64 60) (.slice (some ⟨gd, 0, none⟩) 2 2)) hg) (Blk.gr (bd.far13 (Blk.ne_ bd br (by decide)) (.slice (some ⟨g4, 0, none⟩) 4 4) (.string ⟨#[99]⟩) (.slice none 0 0) (.slice (some ⟨g9, 0, none⟩) 2 2) (.int .i64 1000) (.slice (some ⟨gc, 0, none⟩) 1 1) (.int .i64 0) (.int .i64 20) (.int .i64 0) (.int .i64 10) (.int .i64 0) (.int .i64 60) (.slice (some ⟨gd, 0, none⟩) 2 2)) hg)) (Blk.gr (br.set13 (.slice (some ⟨g4, 0, none⟩) 4 4) (.string ⟨#[99]⟩) (.slice none 0 0) (.slice (some ⟨g9, 0, none⟩) 2 2) (.int .i64 1000) (.slice (some ⟨gc, 0, none⟩) 1 1) (.int .i64 0) (.int .i64 20) (.int .i64 0) (.int .i64 10) (.int .i64 0) (.int .i64 60) (.slice (some ⟨gd, 0, none⟩) 2 2)) hg) hS.1
      · refine wpOp_go (by rfl) (Eq.refl _) (by go_simp; done) ?_
        intro K hK
        go_simp
        try simp only [Act.put]
        have bc := Blk.new w3 109 #[.string ⟨#[103, 97, 105, 110]⟩, .int .i64 100, .int .i64 50, .slice none 0 0]
        have hal : Gr w3 (w3.alloc (.cells #[.string ⟨#[103, 97, 105, 110]⟩, .int .i64 100, .int .i64 50, .slice none 0 0] 109)) := (Below.refl _ _).alloc (Nat.le_refl _) _
        replace z := And.intro (Below.trans z.1 (Below.mono hal (Below.size z.1))) (Blk.gr z.2 hal)
        replace br := Blk.gr br hal
        try replace b4 := Blk.gr b4 hal
        try replace b9 := Blk.gr b9 hal
        try replace bd := Blk.gr bd hal
        clear hal
        generalize w3.heap.size = gc at *
        refine hK _ _ z ?_
        clear hK K
        refine wpW_branch [4] (by kernel_rfl) (by simp) ?_
        intro w4 hg4 hS4
        try clear z
        have z := hS4
        replace br := Blk.gr br hg4
        replace b9 := Blk.gr b9 hg4
        replace bc := Blk.gr bc hg4
        replace bd := Blk.gr bd hg4
        refine each_cons ?_ (each_nil)
        refine wpOp_go (by rfl) (Eq.refl _) (by go_simp; done) ?_
        intro K hK
        go_simp
        try simp only [Act.put]
        have b4 := Blk.new w4 104 #[.string ⟨#[97, 110, 110]⟩, .int .i64 1, .string ⟨#[98, 111, 98]⟩, .int .i64 2, .string ⟨#[99, 105, 100]⟩, .int .i64 2, .string ⟨#[100, 111, 114, 97]⟩, .int .i64 3]
        have hal : Gr w4 (w4.alloc (.cells #[.string ⟨#[97, 110, 110]⟩, .int .i64 1, .string ⟨#[98, 111, 98]⟩, .int .i64 2, .string ⟨#[99, 105, 100]⟩, .int .i64 2, .string ⟨#[100, 111, 114, 97]⟩, .int .i64 3] 104)) := (Below.refl _ _).alloc (Nat.le_refl _) _
        replace z := And.intro (Below.trans z.1 (Below.mono hal (Below.size z.1))) (Blk.gr z.2 hal)
        replace br := Blk.gr br hal
        try replace b9 := Blk.gr b9 hal
        try replace bc := Blk.gr bc hal
        try replace bd := Blk.gr bd hal
        clear hal
        generalize w4.heap.size = g4 at *
        refine hK _ _ z ?_
        clear hK K
        refine wpW_det (t' := ?ct18R64) 18 (by rfl) (by kernel_rfl) (NQ_free _) (by kernel_rfl) ?cw18R64 ?ch18R64 ?ca18R64 (Eq.refl _) ?cH18R64
        case cw18R64 => (go_simp; done)
        case ch18R64 =>
          intro ds w' hS K hK
          go_simp
          try go_bits
          exact hK _ hS (Gr.refl _)
        case ca18R64 => (first | (simp [Act.put]; done) | (simp [Act.put, *]; done))
        try dsimp only
        refine wpW_branch [19] (by kernel_rfl) (by simp) ?_
        intro wz hg_wz hS_wz
        replace br := Blk.gr br hg_wz
        replace b4 := Blk.gr b4 hg_wz
        replace b9 := Blk.gr b9 hg_wz
        replace bc := Blk.gr bc hg_wz
        replace bd := Blk.gr bd hg_wz
        obtain ⟨z0, z1, z2, z3, z4, z5, z6, z7, z8, z9, z10, z11, z12, zf⟩ := blk13 br
        have lr := br.lt
        refine each_cons ?_ each_nil
        refine wpOp_go (by rfl) (Eq.refl _) (by go_simp; done) ?_
        intro K hK
        go_simp
        try simp only [Act.put]
        refine hK _ _ (And.intro (Below.set13 hS_wz.1 HGR.out (.slice (some ⟨g4, 0, none⟩) 4 4) (.string ⟨#[99]⟩) (.slice none 0 0) (.slice (some ⟨g9, 0, none⟩) 2 2) (.int .i64 1000) (.slice (some ⟨gc, 0, none⟩) 1 1) (.int .i64 0) (.int .i64 20) (.int .i64 0) (.int .i64 10) (.int .i64 0) (.int .i64 60) (.slice (some ⟨gd, 0, none⟩) 2 2)) (Blk.far13 hS_wz.2 (Blk.ne_ hS_wz.2 br (by decide)) (.slice (some ⟨g4, 0, none⟩) 4 4) (.string ⟨#[99]⟩) (.slice none 0 0) (.slice (some ⟨g9, 0, none⟩) 2 2) (.int .i64 1000) (.slice (some ⟨gc, 0, none⟩) 1 1) (.int .i64 0) (.int .i64 20) (.int .i64 0) (.int .i64 10) (.int .i64 0) (.int .i64 60) (.slice (some ⟨gd, 0, none⟩) 2 2))) ?_
        clear hK K z0 z1 z2 z3 z4 z5 z6 z7 z8 z9 z10 z11 z12 zf lr
        refine wpW_end (by kernel_rfl) ?_
        intro we hg hS
        unfold NQ
        dsimp only
        exact H.out _ _ _ _ _ _ _ _ _ _ _ _ _ _ _ _ _ _ _ _ we (HOK.out (Blk.gr (b4.far13 (Blk.ne_ b4 br (by decide)) (.slice (some ⟨g4, 0, none⟩) 4 4) (.string ⟨#[99]⟩) (.slice none 0 0) (.slice (some ⟨g9, 0, none⟩) 2 2) (.int .i64 1000) (.slice (some ⟨gc, 0, none⟩) 1 1) (.int .i64 0) (.int .i64 20) (.int .i64 0) (.int .i64 10) (.int .i64 0) (.int .i64 60) (.slice (some ⟨gd, 0, none⟩) 2 2)) hg) (Blk.gr (b9.far13 (Blk.ne_ b9 br (by decide)) (.slice (some ⟨g4, 0, none⟩) 4 4) (.string ⟨#[99]⟩) (.slice none 0 0) (.slice (some ⟨g9, 0, none⟩) 2 2) (.int .i64 1000) (.slice (some ⟨gc, 0, none⟩) 1 1) (.int .i64 0) (.int .i64 20) (.int .i64 0) (.int .i64 10) (.int .i64 0) (.int .i64 60) (.slice (some ⟨gd, 0, none⟩) 2 2)) hg) (Blk.gr (bc.far13 (Blk.ne_ bc br (by decide)) (.slice (some ⟨g4, 0, none⟩) 4 4) (.string ⟨#[99]⟩) (.slice none 0 0) (.slice (some ⟨g9, 0, none⟩) 2 2) (.int .i64 1000) (.slice (some ⟨gc, 0, none⟩) 1 1) (.int .i64 0) (.int .i64 20) (.int .i64 0) (.int .i64 10) (.int .i64 0) (.int .i64 60) (.slice (some ⟨gd, 0, none⟩) 2 2)) hg) (Blk.gr (bd.far13 (Blk.ne_ bd br (by decide)) (.slice (some ⟨g4, 0, none⟩) 4 4) (.string ⟨#[99]⟩) (.slice none 0 0) (.slice (some ⟨g9, 0, none⟩) 2 2) (.int .i64 1000) (.slice (some ⟨gc, 0, none⟩) 1 1) (.int .i64 0) (.int .i64 20) (.int .i64 0) (.int .i64 10) (.int .i64 0) (.int .i64 60) (.slice (some ⟨gd, 0, none⟩) 2 2)) hg)) (Blk.gr (br.set13 (.slice (some ⟨g4, 0, none⟩) 4 4) (.string ⟨#[99]⟩) (.slice none 0 0) (.slice (some ⟨g9, 0, none⟩) 2 2) (.int .i64 1000) (.slice (some ⟨gc, 0, none⟩) 1 1) (.int .i64 0) (.int .i64 20) (.int .i64 0) (.int .i64 10) (.int .i64 0) (.int .i64 60) (.slice (some ⟨gd, 0, none⟩) 2 2)) hg) hS.1
    · refine wpOp_go (by rfl) (Eq.refl _) (by go_simp; done) ?_
      intro K hK
      go_simp
      try simp only [Act.put]
      have bc := Blk.new w2 109 #[.string ⟨#[103, 97, 105, 110]⟩, .int .i64 100, .int .i64 50, .slice none 0 0]
      have hal : Gr w2 (w2.alloc (.cells #[.string ⟨#[103, 97, 105, 110]⟩, .int .i64 100, .int .i64 50, .slice none 0 0] 109)) := (Below.refl _ _).alloc (Nat.le_refl _) _
      replace z := And.intro (Below.trans z.1 (Below.mono hal (Below.size z.1))) (Blk.gr z.2 hal)
      replace br := Blk.gr br hal
      try replace b4 := Blk.gr b4 hal
      try replace b9 := Blk.gr b9 hal
      try replace bd := Blk.gr bd hal
      clear hal
      generalize w2.heap.size = gc at *
      refine hK _ _ z ?_
      clear hK K
      refine wpW_branch [4, 9] (by kernel_rfl) (by simp) ?_
      intro w3 hg3 hS3
      try clear z
      have z := hS3
      replace br := Blk.gr br hg3
      replace bc := Blk.gr bc hg3
      replace bd := Blk.gr bd hg3
      refine each_cons ?_ (each_cons ?_ (each_nil))
      · refine wpOp_go (by rfl) (Eq.refl _) (by go_simp; done) ?_
        intro K hK
        go_simp
        try simp only [Act.put]
        have b4 := Blk.new w3 104 #[.string ⟨#[97, 110, 110]⟩, .int .i64 1, .string ⟨#[98, 111, 98]⟩, .int .i64 2, .string ⟨#[99, 105, 100]⟩, .int .i64 2, .string ⟨#[100, 111, 114, 97]⟩, .int .i64 3]
        have hal : Gr w3 (w3.alloc (.cells #[.string ⟨#[97, 110, 110]⟩, .int .i64 1, .string ⟨#[98, 111, 98]⟩, .int .i64 2, .string ⟨#[99, 105, 100]⟩, .int .i64 2, .string ⟨#[100, 111, 114, 97]⟩, .int .i64 3] 104)) := (Below.refl _ _).alloc (Nat.le_refl _) _
        replace z := And.intro (Below.trans z.1 (Below.mono hal (Below.size z.1))) (Blk.gr z.2 hal)
        replace br := Blk.gr br hal
        try replace b9 := Blk.gr b9 hal
        try replace bc := Blk.gr bc hal
        try replace bd := Blk.gr bd hal
        clear hal
        generalize w3.heap.size = g4 at *
        refine hK _ _ z ?_
        clear hK K
        refine wpW_branch [9] (by kernel_rfl) (by simp) ?_
        intro w4 hg4 hS4
        try clear z
        have z := hS4
        replace br := Blk.gr br hg4
        replace b4 := Blk.gr b4 hg4
        replace bc := Blk.gr bc hg4
        replace bd := Blk.gr bd hg4
        refine each_cons ?_ (each_nil)
        refine wpOp_go (by rfl) (Eq.refl _) (by go_simp; done) ?_
        intro K hK
        go_simp
        try simp only [Act.put]
        have b9 := Blk.new w4 106 #[.int .i64 (weldLow 0), .int .i64 (weldLow 1), .int .i64 (weldLow 2), .int .i64 (weldLow 3), .int .i64 (weldLow 4), .int .i64 (weldLow 5), .int .i64 (weldLow 6), .int .i64 (weldLow 7), .int .i64 (weldLow 8), .int .i64 (weldLow 9), .int .i64 (weldLow 10), .int .i64 (weldLow 11), .int .i64 0, .int .i64 (weldTop 0), .int .i64 (weldTop 1), .int .i64 (weldTop 2), .int .i64 (weldTop 3), .int .i64 (weldTop 4), .int .i64 (weldTop 5), .int .i64 (weldTop 6), .int .i64 (weldTop 7), .int .i64 (weldTop 8), .int .i64 (weldTop 9), .int .i64 (weldTop 10), .int .i64 (weldTop 11), .int .i64 1]
        have hal : Gr w4 (w4.alloc (.cells #[.int .i64 (weldLow 0), .int .i64 (weldLow 1), .int .i64 (weldLow 2), .int .i64 (weldLow 3), .int .i64 (weldLow 4), .int .i64 (weldLow 5), .int .i64 (weldLow 6), .int .i64 (weldLow 7), .int .i64 (weldLow 8), .int .i64 (weldLow 9), .int .i64 (weldLow 10), .int .i64 (weldLow 11), .int .i64 0, .int .i64 (weldTop 0), .int .i64 (weldTop 1), .int .i64 (weldTop 2), .int .i64 (weldTop 3), .int .i64 (weldTop 4), .int .i64 (weldTop 5), .int .i64 (weldTop 6), .int .i64 (weldTop 7), .int .i64 (weldTop 8), .int .i64 (weldTop 9), .int .i64 (weldTop 10), .int .i64 (weldTop 11), .int .i64 1] 106)) := (Below.refl _ _).alloc (Nat.le_refl _) _
        replace z := And.intro (Below.trans z.1 (Below.mono hal (Below.size z.1))) (Blk.gr z.2 hal)
        replace br := Blk.gr br hal
        try replace b4 := Blk.gr b4 hal
        try replace bc := Blk.gr bc hal
        try replace bd := Blk.gr bd hal
        clear hal
        generalize w4.heap.size = g9 at *
        refine hK _ _ z ?_
        clear hK K
        refine wpW_det (t' := ?ct10R65) 10 (by rfl) (by kernel_rfl) (NQ_free _) (by kernel_rfl) ?cw10R65 ?ch10R65 ?ca10R65 (Eq.refl _) ?cH10R65
        case cw10R65 => (go_simp; done)
        case ch10R65 =>
          intro ds w' hS K hK
          go_simp
          try go_bits
          exact hK _ hS (Gr.refl _)
        case ca10R65 => (first | (simp [Act.put]; done) | (simp [Act.put, *]; done))
        try dsimp only
        refine wpW_det (t' := ?ct18R66) 18 (by rfl) (by kernel_rfl) (NQ_free _) (by kernel_rfl) ?cw18R66 ?ch18R66 ?ca18R66 (Eq.refl _) ?cH18R66
        case cw18R66 => (go_simp; done)
        case ch18R66 =>
          intro ds w' hS K hK
          go_simp
          try go_bits
          exact hK _ hS (Gr.refl _)
        case ca18R66 => (first | (simp [Act.put]; done) | (simp [Act.put, *]; done))
        try dsimp only
        refine wpW_branch [19] (by kernel_rfl) (by simp) ?_
        intro wz hg_wz hS_wz
        replace br := Blk.gr br hg_wz
        replace b4 := Blk.gr b4 hg_wz
        replace b9 := Blk.gr b9 hg_wz
        replace bc := Blk.gr bc hg_wz
        replace bd := Blk.gr bd hg_wz
        obtain ⟨z0, z1, z2, z3, z4, z5, z6, z7, z8, z9, z10, z11, z12, zf⟩ := blk13 br
        have lr := br.lt
        refine each_cons ?_ each_nil
        refine wpOp_go (by rfl) (Eq.refl _) (by go_simp; done) ?_
        intro K hK
        go_simp
        try simp only [Act.put]
        refine hK _ _ (And.intro (Below.set13 hS_wz.1 HGR.out (.slice (some ⟨g4, 0, none⟩) 4 4) (.string ⟨#[99]⟩) (.slice none 0 0) (.slice (some ⟨g9, 0, none⟩) 2 2) (.int .i64 1000) (.slice (some ⟨gc, 0, none⟩) 1 1) (.int .i64 0) (.int .i64 20) (.int .i64 0) (.int .i64 10) (.int .i64 0) (.int .i64 60) (.slice (some ⟨gd, 0, none⟩) 2 2)) (Blk.far13 hS_wz.2 (Blk.ne_ hS_wz.2 br (by decide)) (.slice (some ⟨g4, 0, none⟩) 4 4) (.string ⟨#[99]⟩) (.slice none 0 0) (.slice (some ⟨g9, 0, none⟩) 2 2) (.int .i64 1000) (.slice (some ⟨gc, 0, none⟩) 1 1) (.int .i64 0) (.int .i64 20) (.int .i64 0) (.int .i64 10) (.int .i64 0) (.int .i64 60) (.slice (some ⟨gd, 0, none⟩) 2 2))) ?_
        clear hK K z0 z1 z2 z3 z4 z5 z6 z7 z8 z9 z10 z11 z12 zf lr
        refine wpW_end (by kernel_rfl) ?_
        intro we hg hS
        unfold NQ
        dsimp only
        exact H.out _ _ _ _ _ _ _ _ _ _ _ _ _ _ _ _ _ _ _ _ we (HOK.out (Blk.gr (b4.far13 (Blk.ne_ b4 br (by decide)) (.slice (some ⟨g4, 0, none⟩) 4 4) (.string ⟨#[99]⟩) (.slice none 0 0) (.slice (some ⟨g9, 0, none⟩) 2 2) (.int .i64 1000) (.slice (some ⟨gc, 0, none⟩) 1 1) (.int .i64 0) (.int .i64 20) (.int .i64 0) (.int .i64 10) (.int .i64 0) (.int .i64 60) (.slice (some ⟨gd, 0, none⟩) 2 2)) hg) (Blk.gr (b9.far13 (Blk.ne_ b9 br (by decide)) (.slice (some ⟨g4, 0, none⟩) 4 4) (.string ⟨#[99]⟩) (.slice none 0 0) (.slice (some ⟨g9, 0, none⟩) 2 2) (.int .i64 1000) (.slice (some ⟨gc, 0, none⟩) 1 1) (.int .i64 0) (.int .i64 20) (.int .i64 0) (.int .i64 10) (.int .i64 0) (.int .i64 60) (.slice (some ⟨gd, 0, none⟩) 2 2)) hg) (Blk.gr (bc.far13 (Blk.ne_ bc br (by decide)) (.slice (some ⟨g4, 0, none⟩) 4 4) (.string ⟨#[99]⟩) (.slice none 0 0) (.slice (some ⟨g9, 0, none⟩) 2 2) (.int .i64 1000) (.slice (some ⟨gc, 0, none⟩) 1 1) (.int .i64 0) (.int .i64 20) (.int .i64 0) (.int .i64 10) (.int .i64 0) (.int .i64 60) (.slice (some ⟨gd, 0, none⟩) 2 2)) hg) (Blk.gr (bd.far13 (Blk.ne_ bd br (by decide)) (.slice (some ⟨g4, 0, none⟩) 4 4) (.string ⟨#[99]⟩) (.slice none 0 0) (.slice (some ⟨g9, 0, none⟩) 2 2) (.int .i64 1000) (.slice (some ⟨gc, 0, none⟩) 1 1) (.int .i64 0) (.int .i64 20) (.int .i64 0) (.int .i64 10) (.int .i64 0) (.int .i64 60) (.slice (some ⟨gd, 0, none⟩) 2 2)) hg)) (Blk.gr (br.set13 (.slice (some ⟨g4, 0, none⟩) 4 4) (.string ⟨#[99]⟩) (.slice none 0 0) (.slice (some ⟨g9, 0, none⟩) 2 2) (.int .i64 1000) (.slice (some ⟨gc, 0, none⟩) 1 1) (.int .i64 0) (.int .i64 20) (.int .i64 0) (.int .i64 10) (.int .i64 0) (.int .i64 60) (.slice (some ⟨gd, 0, none⟩) 2 2)) hg) hS.1
      · refine wpOp_go (by rfl) (Eq.refl _) (by go_simp; done) ?_
        intro K hK
        go_simp
        try simp only [Act.put]
        have b9 := Blk.new w3 106 #[.int .i64 (weldLow 0), .int .i64 (weldLow 1), .int .i64 (weldLow 2), .int .i64 (weldLow 3), .int .i64 (weldLow 4), .int .i64 (weldLow 5), .int .i64 (weldLow 6), .int .i64 (weldLow 7), .int .i64 (weldLow 8), .int .i64 (weldLow 9), .int .i64 (weldLow 10), .int .i64 (weldLow 11), .int .i64 0, .int .i64 (weldTop 0), .int .i64 (weldTop 1), .int .i64 (weldTop 2), .int .i64 (weldTop 3), .int .i64 (weldTop 4), .int .i64 (weldTop 5), .int .i64 (weldTop 6), .int .i64 (weldTop 7), .int .i64 (weldTop 8), .int .i64 (weldTop 9), .int .i64 (weldTop 10), .int .i64 (weldTop 11), .int .i64 1]
        have hal : Gr w3 (w3.alloc (.cells #[.int .i64 (weldLow 0), .int .i64 (weldLow 1), .int .i64 (weldLow 2), .int .i64 (weldLow 3), .int .i64 (weldLow 4), .int .i64 (weldLow 5), .int .i64 (weldLow 6), .int .i64 (weldLow 7), .int .i64 (weldLow 8), .int .i64 (weldLow 9), .int .i64 (weldLow 10), .int .i64 (weldLow 11), .int .i64 0, .int .i64 (weldTop 0), .int .i64 (weldTop 1), .int .i64 (weldTop 2), .int .i64 (weldTop 3), .int .i64 (weldTop 4), .int .i64 (weldTop 5), .int .i64 (weldTop 6), .int .i64 (weldTop 7), .int .i64 (weldTop 8), .int .i64 (weldTop 9), .int .i64 (weldTop 10), .int .i64 (weldTop 11), .int .i64 1] 106)) := (Below.refl _ _).alloc (Nat.le_refl _) _
        replace z := And.intro (Below.trans z.1 (Below.mono hal (Below.size z.1))) (Blk.gr z.2 hal)
        replace br := Blk.gr br hal
        try replace b4 := Blk.gr b4 hal
        try replace bc := Blk.gr bc hal
        try replace bd := Blk.gr bd hal
        clear hal
        generalize w3.heap.size = g9 at *
        refine hK _ _ z ?_
        clear hK K
        refine wpW_det (t' := ?ct10R67) 10 (by rfl) (by kernel_rfl) (NQ_free _) (by kernel_rfl) ?cw10R67 ?ch10R67 ?ca10R67 (Eq.refl _) ?cH10R67
        case cw10R67 => (go_simp; done)
        case ch10R67 =>
          intro ds w' hS K hK
          go_simp
          try go_bits
          exact hK _ hS (Gr.refl _)
        case ca10R67 => (first | (simp [Act.put]; done) | (simp [Act.put, *]; done))
        try dsimp only
        refine wpW_branch [4] (by kernel_rfl) (by simp) ?_
        intro w4 hg4 hS4
        try clear z
        have z := hS4
        replace br := Blk.gr br hg4
        replace b9 := Blk.gr b9 hg4
        replace bc := Blk.gr bc hg4
        replace bd := Blk.gr bd hg4
        refine each_cons ?_ (each_nil)
        refine wpOp_go (by rfl) (Eq.refl _) (by go_simp; done) ?_
        intro K hK
        go_simp
        try simp only [Act.put]
        have b4 := Blk.new w4 104 #[.string ⟨#[97, 110, 110]⟩, .int .i64 1, .string ⟨#[98, 111, 98]⟩, .int .i64 2, .string ⟨#[99, 105, 100]⟩, .int .i64 2, .string ⟨#[100, 111, 114, 97]⟩, .int .i64 3]
        have hal : Gr w4 (w4.alloc (.cells #[.string ⟨#[97, 110, 110]⟩, .int .i64 1, .string ⟨#[98, 111, 98]⟩, .int .i64 2, .string ⟨#[99, 105, 100]⟩, .int .i64 2, .string ⟨#[100, 111, 114, 97]⟩, .int .i64 3] 104)) := (Below.refl _ _).alloc (Nat.le_refl _) _
        replace z := And.intro (Below.trans z.1 (Below.mono hal (Below.size z.1))) (Blk.gr z.2 hal)
        replace br := Blk.gr br hal
        try replace b9 := Blk.gr b9 hal
        try replace bc := Blk.gr bc hal
        try replace bd := Blk.gr bd hal
        clear hal
        generalize w4.heap.size = g4 at *
        refine hK _ _ z ?_
        clear hK K
        refine wpW_det (t' := ?ct18R68) 18 (by rfl) (by kernel_rfl) (NQ_free _) (by kernel_rfl) ?cw18R68 ?ch18R68 ?ca18R68 (Eq.refl _) ?cH18R68
        case cw18R68 => (go_simp; done)
        case ch18R68 =>
          intro ds w' hS K hK
          go_simp
          try go_bits
          exact hK _ hS (Gr.refl _)
        case ca18R68 => (first | (simp [Act.put]; done) | (simp [Act.put, *]; done))
        try dsimp only
        refine wpW_branch [19] (by kernel_rfl) (by simp) ?_
        intro wz hg_wz hS_wz
        replace br := Blk.gr br hg_wz
        replace b4 := Blk.gr b4 hg_wz
        replace b9 := Blk.gr b9 hg_wz
        replace bc := Blk.gr bc hg_wz
        replace bd := Blk.gr bd hg_wz
        obtain ⟨z0, z1, z2, z3, z4, z5, z6, z7, z8, z9, z10, z11, z12, zf⟩ := blk13 br
        have lr := br.lt
        refine each_cons ?_ each_nil
        refine wpOp_go (by rfl) (Eq.refl _) (by go_simp; done) ?_
        intro K hK
        go_simp
        try simp only [Act.put]
        refine hK _ _ (And.intro (Below.set13 hS_wz.1 HGR.out (.slice (some ⟨g4, 0, none⟩) 4 4) (.string ⟨#[99]⟩) (.slice none 0 0) (.slice (some ⟨g9, 0, none⟩) 2 2) (.int .i64 1000) (.slice (some ⟨gc, 0, none⟩) 1 1) (.int .i64 0) (.int .i64 20) (.int .i64 0) (.int .i64 10) (.int .i64 0) (.int .i64 60) (.slice (some ⟨gd, 0, none⟩) 2 2)) (Blk.far13 hS_wz.2 (Blk.ne_ hS_wz.2 br (by decide)) (.slice (some ⟨g4, 0, none⟩) 4 4) (.string ⟨#[99]⟩) (.slice none 0 0) (.slice (some ⟨g9, 0, none⟩) 2 2) (.int .i64 1000) (.slice (some ⟨gc, 0, none⟩) 1 1) (.int .i64 0) (.int .i64 20) (.int .i64 0) (.int .i64 10) (.int .i64 0) (.int .i64 60) (.slice (some ⟨gd, 0, none⟩) 2 2))) ?_
        clear hK K z0 z1 z2 z3 z4 z5 z6 z7 z8 z9 z10 z11 z12 zf lr
        refine wpW_end (by kernel_rfl) ?_
        intro we hg hS
        unfold NQ
        dsimp only
        exact H.out _ _ _ _ _ _ _ _ _ _ _ _ _ _ _ _ _ _ _ _ we (HOK.out (Blk.gr (b4.far13 (Blk.ne_ b4 br (by decide)) (.slice (some ⟨g4, 0, none⟩) 4 4) (.string ⟨#[99]⟩) (.slice none 0 0) (.slice (some ⟨g9, 0, none⟩) 2 2) (.int .i64 1000) (.slice (some ⟨gc, 0, none⟩) 1 1) (.int .i64 0) (.int .i64 20) (.int .i64 0) (.int .i64 10) (.int .i64 0) (.int .i64 60) (.slice (some ⟨gd, 0, none⟩) 2 2)) hg) (Blk.gr (b9.far13 (Blk.ne_ b9 br (by decide)) (.slice (some ⟨g4, 0, none⟩) 4 4) (.string ⟨#[99]⟩) (.slice none 0 0) (.slice (some ⟨g9, 0, none⟩) 2 2) (.int .i64 1000) (.slice (some ⟨gc, 0, none⟩) 1 1) (.int .i64 0) (.int .i64 20) (.int .i64 0) (.int .i64 10) (.int .i64 0) (.int .i64 60) (.slice (some ⟨gd, 0, none⟩) 2 2)) hg) (Blk.gr (bc.far13 (Blk.ne_ bc br (by decide)) (.slice (some ⟨g4, 0, none⟩) 4 4) (.string ⟨#[99]⟩) (.slice none 0 0) (.slice (some ⟨g9, 0, none⟩) 2 2) (.int .i64 1000) (.slice (some ⟨gc, 0, none⟩) 1 1) (.int .i64 0) (.int .i64 20) (.int .i64 0) (.int .i64 10) (.int .i64 0) (.int .i64 60) (.slice (some ⟨gd, 0, none⟩) 2 2)) hg) (Blk.gr (bd.far13 (Blk.ne_ bd br (by decide)) (.slice (some ⟨g4, 0, none⟩) 4 4) (.string ⟨#[99]⟩) (.slice none 0 0) (.slice (some ⟨g9, 0, none⟩) 2 2) (.int .i64 1000) (.slice (some ⟨gc, 0, none⟩) 1 1) (.int .i64 0) (.int .i64 20) (.int .i64 0) (.int .i64 10) (.int .i64 0) (.int .i64 60) (.slice (some ⟨gd, 0, none⟩) 2 2)) hg)) (Blk.gr (br.set13 (.slice (some ⟨g4, 0, none⟩) 4 4) (.string ⟨#[99]⟩) (.slice none 0 0) (.slice (some ⟨g9, 0, none⟩) 2 2) (.int .i64 1000) (.slice (some ⟨gc, 0, none⟩) 1 1) (.int .i64 0) (.int .i64 20) (.int .i64 0) (.int .i64 10) (.int .i64 0) (.int .i64 60) (.slice (some ⟨gd, 0, none⟩) 2 2)) hg) hS.1
end Go.Proofs.YtmdbpkomanhpoaaGreatDoor
