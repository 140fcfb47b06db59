/- The set-up of the examples: its last region. -/
import Derived.Test.YtlbpogklkkninaaGreatDoorZoOvC
namespace Go.Proofs.YtlbpogklkkninaaGreatDoor
open Go.RowKit Go.Lib

set_option maxRecDepth 100000 in
set_option maxHeartbeats 8000000 in
theorem weldReg3 {w W : World} {gr gx : Nat} (hB : Below w.heap.size w W) (hgr : w.heap.size ≤ gr) (br : Blk W gr 33 #[.slice none 0 0, .string ⟨#[]⟩, .slice none 0 0, .slice none 0 0, .int .i64 0, .slice none 0 0, .int .i64 0, .int .i64 0, .int .i64 0, .int .i64 0, .int .i64 0, .int .i64 0, .slice none 0 0]) (bx : Blk W gx 107 (bxC weldLow)) {t2 t3 t4 t5 t6 t7 t8 t9 t10 t11 t12 t13 t14 t15 t16 t17 t18 t19 t20 t21 t22 t23 : Value} {ds : List Deferred} (Q : Exit → Act → World → Prop)
    (h : ∀ (t5 t6 t7 t8 t9 t10 t11 t12 t13 t14 t15 t16 t17 t18 t19 t20 t21 t22 t23 : Value) (m : Me) (w' : World), SeOk weldS m w'.heap.size w' → Blk w' gr 33 (seC weldS m) → Below w.heap.size w w' → Q .normal ⟨#[.pointer (some ⟨gr, 0, none⟩), .pointer (some ⟨gx, 0, none⟩), t2, t3, t4, t5, t6, t7, t8, t9, t10, t11, t12, t13, t14, t15, t16, t17, t18, t19, t20, t21, t22, t23], ds⟩ w') :
    (regOf Tryz.f10 3).wp Tryz.prog Q ⟨#[.pointer (some ⟨gr, 0, none⟩), .pointer (some ⟨gx, 0, none⟩), t2, t3, t4, t5, t6, t7, t8, t9, t10, t11, t12, t13, t14, t15, t16, t17, t18, t19, t20, t21, t22, t23], ds⟩ W := by
  have H := Lib.hid h; clear h
  have HGR := Lib.hid hgr
  have HOK : Hid (∀ {W : World} {g4 g9 gc gd : Nat}, Blk W g4 57 #[.string ⟨#[97, 110, 110]⟩, .int .i64 1, .string ⟨#[98, 111, 98]⟩, .int .i64 2, .string ⟨#[99, 105, 100]⟩, .int .i64 2, .string ⟨#[100, 111, 114, 97]⟩, .int .i64 3] → Blk W g9 110 #[.int .i64 (weldLow 0), .int .i64 (weldLow 1), .int .i64 (weldLow 2), .int .i64 (weldLow 3), .int .i64 (weldLow 4), .int .i64 (weldLow 5), .int .i64 (weldLow 6), .int .i64 (weldLow 7), .int .i64 (weldLow 8), .int .i64 (weldLow 9), .int .i64 (weldLow 10), .int .i64 (weldLow 11), .int .i64 0, .int .i64 (weldTop 0), .int .i64 (weldTop 1), .int .i64 (weldTop 2), .int .i64 (weldTop 3), .int .i64 (weldTop 4), .int .i64 (weldTop 5), .int .i64 (weldTop 6), .int .i64 (weldTop 7), .int .i64 (weldTop 8), .int .i64 (weldTop 9), .int .i64 (weldTop 10), .int .i64 (weldTop 11), .int .i64 1] → Blk W gc 60 #[.string ⟨#[103, 97, 105, 110]⟩, .int .i64 100, .int .i64 50, .slice none 0 0] → Blk W gd 75 #[.int .i64 100, .int .i64 5, .int .i64 900, .int .i64 12] → SeOk weldS ⟨some ⟨g4, 0, none⟩, 4, none, 0, some ⟨g9, 0, none⟩, 2, some ⟨gc, 0, none⟩, 1, some ⟨gd, 0, none⟩, 2⟩ W.heap.size W) := Lib.hid weldOk
  conv in (regOf _ _) => whnf
  refine wp_region_w (fun w' => Below w.heap.size w w' ∧ Blk w' gx 107 (bxC weldLow)) (by kernel_rfl) ((And.intro hB.drew bx.drew)) ?_
  refine wpW_det (t' := ?ct0R1) 0 (by rfl) (by kernel_rfl) (NQ_free _) (by kernel_rfl) ?cw0R1 ?ch0R1 ?ca0R1 (Eq.refl _) ?cH0R1
  case cw0R1 => (go_simp; done)
  case ch0R1 =>
    intro ds w' hS K hK
    obtain ⟨m0, m1, m2, m3, m4, m5, m6, m7, m8, m9, m10, m11, mf⟩ := blk12o hS.2
    have lm := hS.2.lt
    go_simp
    try go_bits
    first
      | exact hK _ hS (Gr.refl _)
      | (go_at_call 37; refine (whole_any _).mono ?_; rintro e wq ⟨rfl, hBq⟩; exact hK _ (And.intro (Below.trans hS.1 (Below.mono hBq (Below.size hS.1))) (Blk.gr hS.2 hBq)) hBq)
  case ca0R1 => (first | (simp [Act.put]; done) | (simp [Act.put, *]; done))
  try dsimp only
  refine wpW_det (t' := ?ct1R1) 1 (by rfl) (by kernel_rfl) (NQ_free _) (by kernel_rfl) ?cw1R1 ?ch1R1 ?ca1R1 (Eq.refl _) ?cH1R1
  case cw1R1 => (go_simp; done)
  case ch1R1 =>
    intro ds w' hS K hK
    obtain ⟨m0, m1, m2, m3, m4, m5, m6, m7, m8, m9, m10, m11, mf⟩ := blk12o hS.2
    have lm := hS.2.lt
    go_simp
    try go_bits
    first
      | exact hK _ hS (Gr.refl _)
      | (go_at_call 37; refine (whole_any _).mono ?_; rintro e wq ⟨rfl, hBq⟩; exact hK _ (And.intro (Below.trans hS.1 (Below.mono hBq (Below.size hS.1))) (Blk.gr hS.2 hBq)) hBq)
  case ca1R1 => (first | (simp [Act.put]; done) | (simp [Act.put, *]; done))
  try dsimp only
  refine wpW_det (t' := ?ct2R1) 2 (by rfl) (by kernel_rfl) (NQ_free _) (by kernel_rfl) ?cw2R1 ?ch2R1 ?ca2R1 (Eq.refl _) ?cH2R1
  case cw2R1 => (go_simp; done)
  case ch2R1 =>
    intro ds w' hS K hK
    obtain ⟨m0, m1, m2, m3, m4, m5, m6, m7, m8, m9, m10, m11, mf⟩ := blk12o hS.2
    have lm := hS.2.lt
    go_simp
    try go_bits
    first
      | exact hK _ hS (Gr.refl _)
      | (go_at_call 37; refine (whole_any _).mono ?_; rintro e wq ⟨rfl, hBq⟩; exact hK _ (And.intro (Below.trans hS.1 (Below.mono hBq (Below.size hS.1))) (Blk.gr hS.2 hBq)) hBq)
  case ca2R1 => (first | (simp [Act.put]; done) | (simp [Act.put, *]; done))
  try dsimp only
  refine wpW_det (t' := ?ct3R1) 3 (by rfl) (by kernel_rfl) (NQ_free _) (by kernel_rfl) ?cw3R1 ?ch3R1 ?ca3R1 (Eq.refl _) ?cH3R1
  case cw3R1 => (go_simp; done)
  case ch3R1 =>
    intro ds w' hS K hK
    obtain ⟨m0, m1, m2, m3, m4, m5, m6, m7, m8, m9, m10, m11, mf⟩ := blk12o hS.2
    have lm := hS.2.lt
    go_simp
    try go_bits
    first
      | exact hK _ hS (Gr.refl _)
      | (go_at_call 37; refine (whole_any _).mono ?_; rintro e wq ⟨rfl, hBq⟩; exact hK _ (And.intro (Below.trans hS.1 (Below.mono hBq (Below.size hS.1))) (Blk.gr hS.2 hBq)) hBq)
  case ca3R1 => (first | (simp [Act.put]; done) | (simp [Act.put, *]; done))
  try dsimp only
  refine wpW_det (t' := ?ct5R1) 5 (by rfl) (by kernel_rfl) (NQ_free _) (by kernel_rfl) ?cw5R1 ?ch5R1 ?ca5R1 (Eq.refl _) ?cH5R1
  case cw5R1 => (go_simp; done)
  case ch5R1 =>
    intro ds w' hS K hK
    obtain ⟨m0, m1, m2, m3, m4, m5, m6, m7, m8, m9, m10, m11, mf⟩ := blk12o hS.2
    have lm := hS.2.lt
    go_simp
    try go_bits
    first
      | exact hK _ hS (Gr.refl _)
      | (go_at_call 37; refine (whole_any _).mono ?_; rintro e wq ⟨rfl, hBq⟩; exact hK _ (And.intro (Below.trans hS.1 (Below.mono hBq (Below.size hS.1))) (Blk.gr hS.2 hBq)) hBq)
  case ca5R1 => (first | (simp [Act.put]; done) | (simp [Act.put, *]; done))
  try dsimp only
  refine wpW_det (t' := ?ct6R1) 6 (by rfl) (by kernel_rfl) (NQ_free _) (by kernel_rfl) ?cw6R1 ?ch6R1 ?ca6R1 (Eq.refl _) ?cH6R1
  case cw6R1 => (go_simp; done)
  case ch6R1 =>
    intro ds w' hS K hK
    obtain ⟨m0, m1, m2, m3, m4, m5, m6, m7, m8, m9, m10, m11, mf⟩ := blk12o hS.2
    have lm := hS.2.lt
    go_simp
    try go_bits
    first
      | exact hK _ hS (Gr.refl _)
      | (go_at_call 37; refine (whole_any _).mono ?_; rintro e wq ⟨rfl, hBq⟩; exact hK _ (And.intro (Below.trans hS.1 (Below.mono hBq (Below.size hS.1))) (Blk.gr hS.2 hBq)) hBq)
  case ca6R1 => (first | (simp [Act.put]; done) | (simp [Act.put, *]; done))
  try dsimp only
  refine wpW_det (t' := ?ct7R1) 7 (by rfl) (by kernel_rfl) (NQ_free _) (by kernel_rfl) ?cw7R1 ?ch7R1 ?ca7R1 (Eq.refl _) ?cH7R1
  case cw7R1 => (go_simp; done)
  case ch7R1 =>
    intro ds w' hS K hK
    obtain ⟨m0, m1, m2, m3, m4, m5, m6, m7, m8, m9, m10, m11, mf⟩ := blk12o hS.2
    have lm := hS.2.lt
    go_simp
    try go_bits
    first
      | exact hK _ hS (Gr.refl _)
      | (go_at_call 37; refine (whole_any _).mono ?_; rintro e wq ⟨rfl, hBq⟩; exact hK _ (And.intro (Below.trans hS.1 (Below.mono hBq (Below.size hS.1))) (Blk.gr hS.2 hBq)) hBq)
  case ca7R1 => (first | (simp [Act.put]; done) | (simp [Act.put, *]; done))
  try dsimp only
  refine wpW_det (t' := ?ct8R1) 8 (by rfl) (by kernel_rfl) (NQ_free _) (by kernel_rfl) ?cw8R1 ?ch8R1 ?ca8R1 (Eq.refl _) ?cH8R1
  case cw8R1 => (go_simp; done)
  case ch8R1 =>
    intro ds w' hS K hK
    obtain ⟨m0, m1, m2, m3, m4, m5, m6, m7, m8, m9, m10, m11, mf⟩ := blk12o hS.2
    have lm := hS.2.lt
    go_simp
    try go_bits
    first
      | exact hK _ hS (Gr.refl _)
      | (go_at_call 37; refine (whole_any _).mono ?_; rintro e wq ⟨rfl, hBq⟩; exact hK _ (And.intro (Below.trans hS.1 (Below.mono hBq (Below.size hS.1))) (Blk.gr hS.2 hBq)) hBq)
  case ca8R1 => (first | (simp [Act.put]; done) | (simp [Act.put, *]; done))
  try dsimp only
  refine wpW_det (t' := ?ct11R1) 11 (by rfl) (by kernel_rfl) (NQ_free _) (by kernel_rfl) ?cw11R1 ?ch11R1 ?ca11R1 (Eq.refl _) ?cH11R1
  case cw11R1 => (go_simp; done)
  case ch11R1 =>
    intro ds w' hS K hK
    obtain ⟨m0, m1, m2, m3, m4, m5, m6, m7, m8, m9, m10, m11, mf⟩ := blk12o hS.2
    have lm := hS.2.lt
    go_simp
    try go_bits
    first
      | exact hK _ hS (Gr.refl _)
      | (go_at_call 37; refine (whole_any _).mono ?_; rintro e wq ⟨rfl, hBq⟩; exact hK _ (And.intro (Below.trans hS.1 (Below.mono hBq (Below.size hS.1))) (Blk.gr hS.2 hBq)) hBq)
  case ca11R1 => (first | (simp [Act.put]; done) | (simp [Act.put, *]; done))
  try dsimp only
  refine wpW_det (t' := ?ct13R1) 13 (by rfl) (by kernel_rfl) (NQ_free _) (by kernel_rfl) ?cw13R1 ?ch13R1 ?ca13R1 (Eq.refl _) ?cH13R1
  case cw13R1 => (go_simp; done)
  case ch13R1 =>
    intro ds w' hS K hK
    obtain ⟨m0, m1, m2, m3, m4, m5, m6, m7, m8, m9, m10, m11, mf⟩ := blk12o hS.2
    have lm := hS.2.lt
    go_simp
    try go_bits
    first
      | exact hK _ hS (Gr.refl _)
      | (go_at_call 37; refine (whole_any _).mono ?_; rintro e wq ⟨rfl, hBq⟩; exact hK _ (And.intro (Below.trans hS.1 (Below.mono hBq (Below.size hS.1))) (Blk.gr hS.2 hBq)) hBq)
  case ca13R1 => (first | (simp [Act.put]; done) | (simp [Act.put, *]; done))
  try dsimp only
  refine wpW_det (t' := ?ct14R1) 14 (by rfl) (by kernel_rfl) (NQ_free _) (by kernel_rfl) ?cw14R1 ?ch14R1 ?ca14R1 (Eq.refl _) ?cH14R1
  case cw14R1 => (go_simp; done)
  case ch14R1 =>
    intro ds w' hS K hK
    obtain ⟨m0, m1, m2, m3, m4, m5, m6, m7, m8, m9, m10, m11, mf⟩ := blk12o hS.2
    have lm := hS.2.lt
    go_simp
    try go_bits
    first
      | exact hK _ hS (Gr.refl _)
      | (go_at_call 37; refine (whole_any _).mono ?_; rintro e wq ⟨rfl, hBq⟩; exact hK _ (And.intro (Below.trans hS.1 (Below.mono hBq (Below.size hS.1))) (Blk.gr hS.2 hBq)) hBq)
  case ca14R1 => (first | (simp [Act.put]; done) | (simp [Act.put, *]; done))
  try dsimp only
  refine wpW_det (t' := ?ct15R1) 15 (by rfl) (by kernel_rfl) (NQ_free _) (by kernel_rfl) ?cw15R1 ?ch15R1 ?ca15R1 (Eq.refl _) ?cH15R1
  case cw15R1 => (go_simp; done)
  case ch15R1 =>
    intro ds w' hS K hK
    obtain ⟨m0, m1, m2, m3, m4, m5, m6, m7, m8, m9, m10, m11, mf⟩ := blk12o hS.2
    have lm := hS.2.lt
    go_simp
    try go_bits
    first
      | exact hK _ hS (Gr.refl _)
      | (go_at_call 37; refine (whole_any _).mono ?_; rintro e wq ⟨rfl, hBq⟩; exact hK _ (And.intro (Below.trans hS.1 (Below.mono hBq (Below.size hS.1))) (Blk.gr hS.2 hBq)) hBq)
  case ca15R1 => (first | (simp [Act.put]; done) | (simp [Act.put, *]; done))
  try dsimp only
  refine wpW_det (t' := ?ct16R1) 16 (by rfl) (by kernel_rfl) (NQ_free _) (by kernel_rfl) ?cw16R1 ?ch16R1 ?ca16R1 (Eq.refl _) ?cH16R1
  case cw16R1 => (go_simp; done)
  case ch16R1 =>
    intro ds w' hS K hK
    obtain ⟨m0, m1, m2, m3, m4, m5, m6, m7, m8, m9, m10, m11, mf⟩ := blk12o hS.2
    have lm := hS.2.lt
    go_simp
    try go_bits
    first
      | exact hK _ hS (Gr.refl _)
      | (go_at_call 37; refine (whole_any _).mono ?_; rintro e wq ⟨rfl, hBq⟩; exact hK _ (And.intro (Below.trans hS.1 (Below.mono hBq (Below.size hS.1))) (Blk.gr hS.2 hBq)) hBq)
  case ca16R1 => (first | (simp [Act.put]; done) | (simp [Act.put, *]; done))
  try dsimp only
  have br : Blk W.drew gr 33 #[.slice none 0 0, .string ⟨#[]⟩, .slice none 0 0, .slice none 0 0, .int .i64 0, .slice none 0 0, .int .i64 0, .int .i64 0, .int .i64 0, .int .i64 0, .int .i64 0, .int .i64 0, .slice none 0 0] := br.drew
  clear hB bx
  refine wpW_branch [4, 9, 12, 17] (by kernel_rfl) (by simp) ?_
  intro w1 hg1 hS1
  try clear z
  have z := hS1
  replace br := Blk.gr br hg1
  refine each_cons ?_ (each_cons ?_ (each_cons ?_ (each_cons ?_ (each_nil))))
  · refine wpOp_go (by rfl) (Eq.refl _) (by go_simp; done) ?_
    intro K hK
    go_simp
    try simp only [Act.put]
    have b4 := Blk.new w1 57 #[.string ⟨#[97, 110, 110]⟩, .int .i64 1, .string ⟨#[98, 111, 98]⟩, .int .i64 2, .string ⟨#[99, 105, 100]⟩, .int .i64 2, .string ⟨#[100, 111, 114, 97]⟩, .int .i64 3]
    have hal : Gr w1 (w1.alloc (.cells #[.string ⟨#[97, 110, 110]⟩, .int .i64 1, .string ⟨#[98, 111, 98]⟩, .int .i64 2, .string ⟨#[99, 105, 100]⟩, .int .i64 2, .string ⟨#[100, 111, 114, 97]⟩, .int .i64 3] 57)) := (Below.refl _ _).alloc (Nat.le_refl _) _
    replace z := And.intro (Below.trans z.1 (Below.mono hal (Below.size z.1))) (Blk.gr z.2 hal)
    replace br := Blk.gr br hal
    try replace b9 := Blk.gr b9 hal
    try replace bc := Blk.gr bc hal
    try replace bd := Blk.gr bd hal
    clear hal
    generalize w1.heap.size = g4 at *
    refine hK _ _ z ?_
    clear hK K
    refine wpW_branch [9, 12, 17] (by kernel_rfl) (by simp) ?_
    intro w2 hg2 hS2
    try clear z
    have z := hS2
    replace br := Blk.gr br hg2
    replace b4 := Blk.gr b4 hg2
    refine each_cons ?_ (each_cons ?_ (each_cons ?_ (each_nil)))
    · refine wpOp_go (by rfl) (Eq.refl _) (by go_simp; done) ?_
      intro K hK
      go_simp
      try simp only [Act.put]
      have b9 := Blk.new w2 110 #[.int .i64 (weldLow 0), .int .i64 (weldLow 1), .int .i64 (weldLow 2), .int .i64 (weldLow 3), .int .i64 (weldLow 4), .int .i64 (weldLow 5), .int .i64 (weldLow 6), .int .i64 (weldLow 7), .int .i64 (weldLow 8), .int .i64 (weldLow 9), .int .i64 (weldLow 10), .int .i64 (weldLow 11), .int .i64 0, .int .i64 (weldTop 0), .int .i64 (weldTop 1), .int .i64 (weldTop 2), .int .i64 (weldTop 3), .int .i64 (weldTop 4), .int .i64 (weldTop 5), .int .i64 (weldTop 6), .int .i64 (weldTop 7), .int .i64 (weldTop 8), .int .i64 (weldTop 9), .int .i64 (weldTop 10), .int .i64 (weldTop 11), .int .i64 1]
      have hal : Gr w2 (w2.alloc (.cells #[.int .i64 (weldLow 0), .int .i64 (weldLow 1), .int .i64 (weldLow 2), .int .i64 (weldLow 3), .int .i64 (weldLow 4), .int .i64 (weldLow 5), .int .i64 (weldLow 6), .int .i64 (weldLow 7), .int .i64 (weldLow 8), .int .i64 (weldLow 9), .int .i64 (weldLow 10), .int .i64 (weldLow 11), .int .i64 0, .int .i64 (weldTop 0), .int .i64 (weldTop 1), .int .i64 (weldTop 2), .int .i64 (weldTop 3), .int .i64 (weldTop 4), .int .i64 (weldTop 5), .int .i64 (weldTop 6), .int .i64 (weldTop 7), .int .i64 (weldTop 8), .int .i64 (weldTop 9), .int .i64 (weldTop 10), .int .i64 (weldTop 11), .int .i64 1] 110)) := (Below.refl _ _).alloc (Nat.le_refl _) _
      replace z := And.intro (Below.trans z.1 (Below.mono hal (Below.size z.1))) (Blk.gr z.2 hal)
      replace br := Blk.gr br hal
      try replace b4 := Blk.gr b4 hal
      try replace bc := Blk.gr bc hal
      try replace bd := Blk.gr bd hal
      clear hal
      generalize w2.heap.size = g9 at *
      refine hK _ _ z ?_
      clear hK K
      refine wpW_det (t' := ?ct10R2) 10 (by rfl) (by kernel_rfl) (NQ_free _) (by kernel_rfl) ?cw10R2 ?ch10R2 ?ca10R2 (Eq.refl _) ?cH10R2
      case cw10R2 => (go_simp; done)
      case ch10R2 =>
        intro ds w' hS K hK
        go_simp
        try go_bits
        exact hK _ hS (Gr.refl _)
      case ca10R2 => (first | (simp [Act.put]; done) | (simp [Act.put, *]; done))
      try dsimp only
      refine wpW_branch [12, 17] (by kernel_rfl) (by simp) ?_
      intro w3 hg3 hS3
      try clear z
      have z := hS3
      replace br := Blk.gr br hg3
      replace b4 := Blk.gr b4 hg3
      replace b9 := Blk.gr b9 hg3
      refine each_cons ?_ (each_cons ?_ (each_nil))
      · refine wpOp_go (by rfl) (Eq.refl _) (by go_simp; done) ?_
        intro K hK
        go_simp
        try simp only [Act.put]
        have bc := Blk.new w3 60 #[.string ⟨#[103, 97, 105, 110]⟩, .int .i64 100, .int .i64 50, .slice none 0 0]
        have hal : Gr w3 (w3.alloc (.cells #[.string ⟨#[103, 97, 105, 110]⟩, .int .i64 100, .int .i64 50, .slice none 0 0] 60)) := (Below.refl _ _).alloc (Nat.le_refl _) _
        replace z := And.intro (Below.trans z.1 (Below.mono hal (Below.size z.1))) (Blk.gr z.2 hal)
        replace br := Blk.gr br hal
        try replace b4 := Blk.gr b4 hal
        try replace b9 := Blk.gr b9 hal
        try replace bd := Blk.gr bd hal
        clear hal
        generalize w3.heap.size = gc at *
        refine hK _ _ z ?_
        clear hK K
        refine wpW_branch [17] (by kernel_rfl) (by simp) ?_
        intro w4 hg4 hS4
        try clear z
        have z := hS4
        replace br := Blk.gr br hg4
        replace b4 := Blk.gr b4 hg4
        replace b9 := Blk.gr b9 hg4
        replace bc := Blk.gr bc hg4
        refine each_cons ?_ (each_nil)
        refine wpOp_go (by rfl) (Eq.refl _) (by go_simp; done) ?_
        intro K hK
        go_simp
        try simp only [Act.put]
        have bd := Blk.new w4 75 #[.int .i64 100, .int .i64 5, .int .i64 900, .int .i64 12]
        have hal : Gr w4 (w4.alloc (.cells #[.int .i64 100, .int .i64 5, .int .i64 900, .int .i64 12] 75)) := (Below.refl _ _).alloc (Nat.le_refl _) _
        replace z := And.intro (Below.trans z.1 (Below.mono hal (Below.size z.1))) (Blk.gr z.2 hal)
        replace br := Blk.gr br hal
        try replace b4 := Blk.gr b4 hal
        try replace b9 := Blk.gr b9 hal
        try replace bc := Blk.gr bc hal
        clear hal
        generalize w4.heap.size = gd at *
        refine hK _ _ z ?_
        clear hK K
        refine wpW_det (t' := ?ct18R3) 18 (by rfl) (by kernel_rfl) (NQ_free _) (by kernel_rfl) ?cw18R3 ?ch18R3 ?ca18R3 (Eq.refl _) ?cH18R3
        case cw18R3 => (go_simp; done)
        case ch18R3 =>
          intro ds w' hS K hK
          go_simp
          try go_bits
          exact hK _ hS (Gr.refl _)
        case ca18R3 => (first | (simp [Act.put]; done) | (simp [Act.put, *]; done))
        try dsimp only
        refine wpW_branch [19] (by kernel_rfl) (by simp) ?_
        intro wz hg_wz hS_wz
        replace br := Blk.gr br hg_wz
        replace b4 := Blk.gr b4 hg_wz
        replace b9 := Blk.gr b9 hg_wz
        replace bc := Blk.gr bc hg_wz
        replace bd := Blk.gr bd hg_wz
        obtain ⟨z0, z1, z2, z3, z4, z5, z6, z7, z8, z9, z10, z11, z12, zf⟩ := blk13 br
        have lr := br.lt
        refine each_cons ?_ each_nil
        refine wpOp_go (by rfl) (Eq.refl _) (by go_simp; done) ?_
        intro K hK
        go_simp
        try simp only [Act.put]
        refine hK _ _ (And.intro (Below.set13 hS_wz.1 HGR.out (.slice (some ⟨g4, 0, none⟩) 4 4) (.string ⟨#[99]⟩) (.slice none 0 0) (.slice (some ⟨g9, 0, none⟩) 2 2) (.int .i64 1000) (.slice (some ⟨gc, 0, none⟩) 1 1) (.int .i64 0) (.int .i64 20) (.int .i64 0) (.int .i64 10) (.int .i64 0) (.int .i64 60) (.slice (some ⟨gd, 0, none⟩) 2 2)) (Blk.far13 hS_wz.2 (Blk.ne_ hS_wz.2 br (by decide)) (.slice (some ⟨g4, 0, none⟩) 4 4) (.string ⟨#[99]⟩) (.slice none 0 0) (.slice (some ⟨g9, 0, none⟩) 2 2) (.int .i64 1000) (.slice (some ⟨gc, 0, none⟩) 1 1) (.int .i64 0) (.int .i64 20) (.int .i64 0) (.int .i64 10) (.int .i64 0) (.int .i64 60) (.slice (some ⟨gd, 0, none⟩) 2 2))) ?_
        clear hK K z0 z1 z2 z3 z4 z5 z6 z7 z8 z9 z10 z11 z12 zf lr
        refine wpW_end (by kernel_rfl) ?_
        intro we hg hS
        unfold NQ
        dsimp only
        exact H.out _ _ _ _ _ _ _ _ _ _ _ _ _ _ _ _ _ _ _ _ we (HOK.out (Blk.gr (b4.far13 (Blk.ne_ b4 br (by decide)) (.slice (some ⟨g4, 0, none⟩) 4 4) (.string ⟨#[99]⟩) (.slice none 0 0) (.slice (some ⟨g9, 0, none⟩) 2 2) (.int .i64 1000) (.slice (some ⟨gc, 0, none⟩) 1 1) (.int .i64 0) (.int .i64 20) (.int .i64 0) (.int .i64 10) (.int .i64 0) (.int .i64 60) (.slice (some ⟨gd, 0, none⟩) 2 2)) hg) (Blk.gr (b9.far13 (Blk.ne_ b9 br (by decide)) (.slice (some ⟨g4, 0, none⟩) 4 4) (.string ⟨#[99]⟩) (.slice none 0 0) (.slice (some ⟨g9, 0, none⟩) 2 2) (.int .i64 1000) (.slice (some ⟨gc, 0, none⟩) 1 1) (.int .i64 0) (.int .i64 20) (.int .i64 0) (.int .i64 10) (.int .i64 0) (.int .i64 60) (.slice (some ⟨gd, 0, none⟩) 2 2)) hg) (Blk.gr (bc.far13 (Blk.ne_ bc br (by decide)) (.slice (some ⟨g4, 0, none⟩) 4 4) (.string ⟨#[99]⟩) (.slice none 0 0) (.slice (some ⟨g9, 0, none⟩) 2 2) (.int .i64 1000) (.slice (some ⟨gc, 0, none⟩) 1 1) (.int .i64 0) (.int .i64 20) (.int .i64 0) (.int .i64 10) (.int .i64 0) (.int .i64 60) (.slice (some ⟨gd, 0, none⟩) 2 2)) hg) (Blk.gr (bd.far13 (Blk.ne_ bd br (by decide)) (.slice (some ⟨g4, 0, none⟩) 4 4) (.string ⟨#[99]⟩) (.slice none 0 0) (.slice (some ⟨g9, 0, none⟩) 2 2) (.int .i64 1000) (.slice (some ⟨gc, 0, none⟩) 1 1) (.int .i64 0) (.int .i64 20) (.int .i64 0) (.int .i64 10) (.int .i64 0) (.int .i64 60) (.slice (some ⟨gd, 0, none⟩) 2 2)) hg)) (Blk.gr (br.set13 (.slice (some ⟨g4, 0, none⟩) 4 4) (.string ⟨#[99]⟩) (.slice none 0 0) (.slice (some ⟨g9, 0, none⟩) 2 2) (.int .i64 1000) (.slice (some ⟨gc, 0, none⟩) 1 1) (.int .i64 0) (.int .i64 20) (.int .i64 0) (.int .i64 10) (.int .i64 0) (.int .i64 60) (.slice (some ⟨gd, 0, none⟩) 2 2)) hg) hS.1
      · refine wpOp_go (by rfl) (Eq.refl _) (by go_simp; done) ?_
        intro K hK
        go_simp
        try simp only [Act.put]
        have bd := Blk.new w3 75 #[.int .i64 100, .int .i64 5, .int .i64 900, .int .i64 12]
        have hal : Gr w3 (w3.alloc (.cells #[.int .i64 100, .int .i64 5, .int .i64 900, .int .i64 12] 75)) := (Below.refl _ _).alloc (Nat.le_refl _) _
        replace z := And.intro (Below.trans z.1 (Below.mono hal (Below.size z.1))) (Blk.gr z.2 hal)
        replace br := Blk.gr br hal
        try replace b4 := Blk.gr b4 hal
        try replace b9 := Blk.gr b9 hal
        try replace bc := Blk.gr bc hal
        clear hal
        generalize w3.heap.size = gd at *
        refine hK _ _ z ?_
        clear hK K
        refine wpW_branch [12] (by kernel_rfl) (by simp) ?_
        intro w4 hg4 hS4
        try clear z
        have z := hS4
        replace br := Blk.gr br hg4
        replace b4 := Blk.gr b4 hg4
        replace b9 := Blk.gr b9 hg4
        replace bd := Blk.gr bd hg4
        refine each_cons ?_ (each_nil)
        refine wpOp_go (by rfl) (Eq.refl _) (by go_simp; done) ?_
        intro K hK
        go_simp
        try simp only [Act.put]
        have bc := Blk.new w4 60 #[.string ⟨#[103, 97, 105, 110]⟩, .int .i64 100, .int .i64 50, .slice none 0 0]
        have hal : Gr w4 (w4.alloc (.cells #[.string ⟨#[103, 97, 105, 110]⟩, .int .i64 100, .int .i64 50, .slice none 0 0] 60)) := (Below.refl _ _).alloc (Nat.le_refl _) _
        replace z := And.intro (Below.trans z.1 (Below.mono hal (Below.size z.1))) (Blk.gr z.2 hal)
        replace br := Blk.gr br hal
        try replace b4 := Blk.gr b4 hal
        try replace b9 := Blk.gr b9 hal
        try replace bd := Blk.gr bd hal
        clear hal
        generalize w4.heap.size = gc at *
        refine hK _ _ z ?_
        clear hK K
        refine wpW_det (t' := ?ct18R4) 18 (by rfl) (by kernel_rfl) (NQ_free _) (by kernel_rfl) ?cw18R4 ?ch18R4 ?ca18R4 (Eq.refl _) ?cH18R4
        case cw18R4 => (go_simp; done)
        case ch18R4 =>
          intro ds w' hS K hK
          go_simp
          try go_bits
          exact hK _ hS (Gr.refl _)
        case ca18R4 => (first | (simp [Act.put]; done) | (simp [Act.put, *]; done))
        try dsimp only
        refine wpW_branch [19] (by kernel_rfl) (by simp) ?_
        intro wz hg_wz hS_wz
        replace br := Blk.gr br hg_wz
        replace b4 := Blk.gr b4 hg_wz
        replace b9 := Blk.gr b9 hg_wz
        replace bc := Blk.gr bc hg_wz
        replace bd := Blk.gr bd hg_wz
        obtain ⟨z0, z1, z2, z3, z4, z5, z6, z7, z8, z9, z10, z11, z12, zf⟩ := blk13 br
        have lr := br.lt
        refine each_cons ?_ each_nil
        refine wpOp_go (by rfl) (Eq.refl _) (by go_simp; done) ?_
        intro K hK
        go_simp
        try simp only [Act.put]
        refine hK _ _ (And.intro (Below.set13 hS_wz.1 HGR.out (.slice (some ⟨g4, 0, none⟩) 4 4) (.string ⟨#[99]⟩) (.slice none 0 0) (.slice (some ⟨g9, 0, none⟩) 2 2) (.int .i64 1000) (.slice (some ⟨gc, 0, none⟩) 1 1) (.int .i64 0) (.int .i64 20) (.int .i64 0) (.int .i64 10) (.int .i64 0) (.int .i64 60) (.slice (some ⟨gd, 0, none⟩) 2 2)) (Blk.far13 hS_wz.2 (Blk.ne_ hS_wz.2 br (by decide)) (.slice (some ⟨g4, 0, none⟩) 4 4) (.string ⟨#[99]⟩) (.slice none 0 0) (.slice (some ⟨g9, 0, none⟩) 2 2) (.int .i64 1000) (.slice (some ⟨gc, 0, none⟩) 1 1) (.int .i64 0) (.int .i64 20) (.int .i64 0) (.int .i64 10) (.int .i64 0) (.int .i64 60) (.slice (some ⟨gd, 0, none⟩) 2 2))) ?_
        clear hK K z0 z1 z2 z3 z4 z5 z6 z7 z8 z9 z10 z11 z12 zf lr
        refine wpW_end (by kernel_rfl) ?_
        intro we hg hS
        unfold NQ
        dsimp only
        exact H.out _ _ _ _ _ _ _ _ _ _ _ _ _ _ _ _ _ _ _ _ we (HOK.out (Blk.gr (b4.far13 (Blk.ne_ b4 br (by decide)) (.slice (some ⟨g4, 0, none⟩) 4 4) (.string ⟨#[99]⟩) (.slice none 0 0) (.slice (some ⟨g9, 0, none⟩) 2 2) (.int .i64 1000) (.slice (some ⟨gc, 0, none⟩) 1 1) (.int .i64 0) (.int .i64 20) (.int .i64 0) (.int .i64 10) (.int .i64 0) (.int .i64 60) (.slice (some ⟨gd, 0, none⟩) 2 2)) hg) (Blk.gr (b9.far13 (Blk.ne_ b9 br (by decide)) (.slice (some ⟨g4, 0, none⟩) 4 4) (.string ⟨#[99]⟩) (.slice none 0 0) (.slice (some ⟨g9, 0, none⟩) 2 2) (.int .i64 1000) (.slice (some ⟨gc, 0, none⟩) 1 1) (.int .i64 0) (.int .i64 20) (.int .i64 0) (.int .i64 10) (.int .i64 0) (.int .i64 60) (.slice (some ⟨gd, 0, none⟩) 2 2)) hg) (Blk.gr (bc.far13 (Blk.ne_ bc br (by decide)) (.slice (some ⟨g4, 0, none⟩) 4 4) (.string ⟨#[99]⟩) (.slice none 0 0) (.slice (some ⟨g9, 0, none⟩) 2 2) (.int .i64 1000) (.slice (some ⟨gc, 0, none⟩) 1 1) (.int .i64 0) (.int .i64 20) (.int .i64 0) (.int .i64 10) (.int .i64 0) (.int .i64 60) (.slice (some ⟨gd, 0, none⟩) 2 2)) hg) (Blk.gr (bd.far13 (Blk.ne_ bd br (by decide)) (.slice (some ⟨g4, 0, none⟩) 4 4) (.string ⟨#[99]⟩) (.slice none 0 0) (.slice (some ⟨g9, 0, none⟩) 2 2) (.int .i64 1000) (.slice (some ⟨gc, 0, none⟩) 1 1) (.int .i64 0) (.int .i64 20) (.int .i64 0) (.int .i64 10) (.int .i64 0) (.int .i64 60) (.slice (some ⟨gd, 0, none⟩) 2 2)) hg)) (Blk.gr (br.set13 (.slice (some ⟨g4, 0, none⟩) 4 4) (.string ⟨#[99]⟩) (.slice none 0 0) (.slice (some ⟨g9, 0, none⟩) 2 2) (.int .i64 1000) (.slice (some ⟨gc, 0, none⟩) 1 1) (.int .i64 0) (.int .i64 20) (.int .i64 0) (.int .i64 10) (.int .i64 0) (.int .i64 60) (.slice (some ⟨gd, 0, none⟩) 2 2)) hg) hS.1
    · refine wpOp_go (by rfl) (Eq.refl _) (by go_simp; done) ?_
      intro K hK
      go_simp
      try simp only [Act.put]
      have bc := Blk.new w2 60 #[.string ⟨#[103, 97, 105, 110]⟩, .int .i64 100, .int .i64 50, .slice none 0 0]
      have hal : Gr w2 (w2.alloc (.cells #[.string ⟨#[103, 97, 105, 110]⟩, .int .i64 100, .int .i64 50, .slice none 0 0] 60)) := (Below.refl _ _).alloc (Nat.le_refl _) _
      replace z := And.intro (Below.trans z.1 (Below.mono hal (Below.size z.1))) (Blk.gr z.2 hal)
      replace br := Blk.gr br hal
      try replace b4 := Blk.gr b4 hal
      try replace b9 := Blk.gr b9 hal
      try replace bd := Blk.gr bd hal
      clear hal
      generalize w2.heap.size = gc at *
      refine hK _ _ z ?_
      clear hK K
      refine wpW_branch [9, 17] (by kernel_rfl) (by simp) ?_
      intro w3 hg3 hS3
      try clear z
      have z := hS3
      replace br := Blk.gr br hg3
      replace b4 := Blk.gr b4 hg3
      replace bc := Blk.gr bc hg3
      refine each_cons ?_ (each_cons ?_ (each_nil))
      · refine wpOp_go (by rfl) (Eq.refl _) (by go_simp; done) ?_
        intro K hK
        go_simp
        try simp only [Act.put]
        have b9 := Blk.new w3 110 #[.int .i64 (weldLow 0), .int .i64 (weldLow 1), .int .i64 (weldLow 2), .int .i64 (weldLow 3), .int .i64 (weldLow 4), .int .i64 (weldLow 5), .int .i64 (weldLow 6), .int .i64 (weldLow 7), .int .i64 (weldLow 8), .int .i64 (weldLow 9), .int .i64 (weldLow 10), .int .i64 (weldLow 11), .int .i64 0, .int .i64 (weldTop 0), .int .i64 (weldTop 1), .int .i64 (weldTop 2), .int .i64 (weldTop 3), .int .i64 (weldTop 4), .int .i64 (weldTop 5), .int .i64 (weldTop 6), .int .i64 (weldTop 7), .int .i64 (weldTop 8), .int .i64 (weldTop 9), .int .i64 (weldTop 10), .int .i64 (weldTop 11), .int .i64 1]
        have hal : Gr w3 (w3.alloc (.cells #[.int .i64 (weldLow 0), .int .i64 (weldLow 1), .int .i64 (weldLow 2), .int .i64 (weldLow 3), .int .i64 (weldLow 4), .int .i64 (weldLow 5), .int .i64 (weldLow 6), .int .i64 (weldLow 7), .int .i64 (weldLow 8), .int .i64 (weldLow 9), .int .i64 (weldLow 10), .int .i64 (weldLow 11), .int .i64 0, .int .i64 (weldTop 0), .int .i64 (weldTop 1), .int .i64 (weldTop 2), .int .i64 (weldTop 3), .int .i64 (weldTop 4), .int .i64 (weldTop 5), .int .i64 (weldTop 6), .int .i64 (weldTop 7), .int .i64 (weldTop 8), .int .i64 (weldTop 9), .int .i64 (weldTop 10), .int .i64 (weldTop 11), .int .i64 1] 110)) := (Below.refl _ _).alloc (Nat.le_refl _) _
        replace z := And.intro (Below.trans z.1 (Below.mono hal (Below.size z.1))) (Blk.gr z.2 hal)
        replace br := Blk.gr br hal
        try replace b4 := Blk.gr b4 hal
        try replace bc := Blk.gr bc hal
        try replace bd := Blk.gr bd hal
        clear hal
        generalize w3.heap.size = g9 at *
        refine hK _ _ z ?_
        clear hK K
        refine wpW_det (t' := ?ct10R5) 10 (by rfl) (by kernel_rfl) (NQ_free _) (by kernel_rfl) ?cw10R5 ?ch10R5 ?ca10R5 (Eq.refl _) ?cH10R5
        case cw10R5 => (go_simp; done)
        case ch10R5 =>
          intro ds w' hS K hK
          go_simp
          try go_bits
          exact hK _ hS (Gr.refl _)
        case ca10R5 => (first | (simp [Act.put]; done) | (simp [Act.put, *]; done))
        try dsimp only
        refine wpW_branch [17] (by kernel_rfl) (by simp) ?_
        intro w4 hg4 hS4
        try clear z
        have z := hS4
        replace br := Blk.gr br hg4
        replace b4 := Blk.gr b4 hg4
        replace b9 := Blk.gr b9 hg4
        replace bc := Blk.gr bc hg4
        refine each_cons ?_ (each_nil)
        refine wpOp_go (by rfl) (Eq.refl _) (by go_simp; done) ?_
        intro K hK
        go_simp
        try simp only [Act.put]
        have bd := Blk.new w4 75 #[.int .i64 100, .int .i64 5, .int .i64 900, .int .i64 12]
        have hal : Gr w4 (w4.alloc (.cells #[.int .i64 100, .int .i64 5, .int .i64 900, .int .i64 12] 75)) := (Below.refl _ _).alloc (Nat.le_refl _) _
        replace z := And.intro (Below.trans z.1 (Below.mono hal (Below.size z.1))) (Blk.gr z.2 hal)
        replace br := Blk.gr br hal
        try replace b4 := Blk.gr b4 hal
        try replace b9 := Blk.gr b9 hal
        try replace bc := Blk.gr bc hal
        clear hal
        generalize w4.heap.size = gd at *
        refine hK _ _ z ?_
        clear hK K
        refine wpW_det (t' := ?ct18R6) 18 (by rfl) (by kernel_rfl) (NQ_free _) (by kernel_rfl) ?cw18R6 ?ch18R6 ?ca18R6 (Eq.refl _) ?cH18R6
        case cw18R6 => (go_simp; done)
        case ch18R6 =>
          intro ds w' hS K hK
          go_simp
          try go_bits
          exact hK _ hS (Gr.refl _)
        case ca18R6 => (first | (simp [Act.put]; done) | (simp [Act.put, *]; done))
        try dsimp only
        refine wpW_branch [19] (by kernel_rfl) (by simp) ?_
        intro wz hg_wz hS_wz
        replace br := Blk.gr br hg_wz
        replace b4 := Blk.gr b4 hg_wz
        replace b9 := Blk.gr b9 hg_wz
        replace bc := Blk.gr bc hg_wz
        replace bd := Blk.gr bd hg_wz
        obtain ⟨z0, z1, z2, z3, z4, z5, z6, z7, z8, z9, z10, z11, z12, zf⟩ := blk13 br
        have lr := br.lt
        refine each_cons ?_ each_nil
        refine wpOp_go (by rfl) (Eq.refl _) (by go_simp; done) ?_
        intro K hK
        go_simp
        try simp only [Act.put]
        refine hK _ _ (And.intro (Below.set13 hS_wz.1 HGR.out (.slice (some ⟨g4, 0, none⟩) 4 4) (.string ⟨#[99]⟩) (.slice none 0 0) (.slice (some ⟨g9, 0, none⟩) 2 2) (.int .i64 1000) (.slice (some ⟨gc, 0, none⟩) 1 1) (.int .i64 0) (.int .i64 20) (.int .i64 0) (.int .i64 10) (.int .i64 0) (.int .i64 60) (.slice (some ⟨gd, 0, none⟩) 2 2)) (Blk.far13 hS_wz.2 (Blk.ne_ hS_wz.2 br (by decide)) (.slice (some ⟨g4, 0, none⟩) 4 4) (.string ⟨#[99]⟩) (.slice none 0 0) (.slice (some ⟨g9, 0, none⟩) 2 2) (.int .i64 1000) (.slice (some ⟨gc, 0, none⟩) 1 1) (.int .i64 0) (.int .i64 20) (.int .i64 0) (.int .i64 10) (.int .i64 0) (.int .i64 60) (.slice (some ⟨gd, 0, none⟩) 2 2))) ?_
        clear hK K z0 z1 z2 z3 z4 z5 z6 z7 z8 z9 z10 z11 z12 zf lr
        refine wpW_end (by kernel_rfl) ?_
        intro we hg hS
        unfold NQ
        dsimp only
        exact H.out _ _ _ _ _ _ _ _ _ _ _ _ _ _ _ _ _ _ _ _ we (HOK.out (Blk.gr (b4.far13 (Blk.ne_ b4 br (by decide)) (.slice (some ⟨g4, 0, none⟩) 4 4) (.string ⟨#[99]⟩) (.slice none 0 0) (.slice (some ⟨g9, 0, none⟩) 2 2) (.int .i64 1000) (.slice (some ⟨gc, 0, none⟩) 1 1) (.int .i64 0) (.int .i64 20) (.int .i64 0) (.int .i64 10) (.int .i64 0) (.int .i64 60) (.slice (some ⟨gd, 0, none⟩) 2 2)) hg) (Blk.gr (b9.far13 (Blk.ne_ b9 br (by decide)) (.slice (some ⟨g4, 0, none⟩) 4 4) (.string ⟨#[99]⟩) (.slice none 0 0) (.slice (some ⟨g9, 0, none⟩) 2 2) (.int .i64 1000) (.slice (some ⟨gc, 0, none⟩) 1 1) (.int .i64 0) (.int .i64 20) (.int .i64 0) (.int .i64 10) (.int .i64 0) (.int .i64 60) (.slice (some ⟨gd, 0, none⟩) 2 2)) hg) (Blk.gr (bc.far13 (Blk.ne_ bc br (by decide)) (.slice (some ⟨g4, 0, none⟩) 4 4) (.string ⟨#[99]⟩) (.slice none 0 0) (.slice (some ⟨g9, 0, none⟩) 2 2) (.int .i64 1000) (.slice (some ⟨gc, 0, none⟩) 1 1) (.int .i64 0) (.int .i64 20) (.int .i64 0) (.int .i64 10) (.int .i64 0) (.int .i64 60) (.slice (some ⟨gd, 0, none⟩) 2 2)) hg) (Blk.gr (bd.far13 (Blk.ne_ bd br (by decide)) (.slice (some ⟨g4, 0, none⟩) 4 4) (.string ⟨#[99]⟩) (.slice none 0 0) (.slice (some ⟨g9, 0, none⟩) 2 2) (.int .i64 1000) (.slice (some ⟨gc, 0, none⟩) 1 1) (.int .i64 0) (.int .i64 20) (.int .i64 0) (.int .i64 10) (.int .i64 0) (.int .i64 60) (.slice (some ⟨gd, 0, none⟩) 2 2)) hg)) (Blk.gr (br.set13 (.slice (some ⟨g4, 0, none⟩) 4 4) (.string ⟨#[99]⟩) (.slice none 0 0) (.slice (some ⟨g9, 0, none⟩) 2 2) (.int .i64 1000) (.slice (some ⟨gc, 0, none⟩) 1 1) (.int .i64 0) (.int .i64 20) (.int .i64 0) (.int .i64 10) (.int .i64 0) (.int .i64 60) (.slice (some ⟨gd, 0, none⟩) 2 2)) hg) hS.1
      · refine wpOp_go (by rfl) (Eq.refl _) (by go_simp; done) ?_
        intro K hK
        go_simp
        try simp only [Act.put]
        have bd := Blk.new w3 75 #[.int .i64 100, .int .i64 5, .int .i64 900, .int .i64 12]
        have hal : Gr w3 (w3.alloc (.cells #[.int .i64 100, .int .i64 5, .int .i64 900, .int .i64 12] 75)) := (Below.refl _ _).alloc (Nat.le_refl _) _
        replace z := And.intro (Below.trans z.1 (Below.mono hal (Below.size z.1))) (Blk.gr z.2 hal)
        replace br := Blk.gr br hal
        try replace b4 := Blk.gr b4 hal
        try replace b9 := Blk.gr b9 hal
        try replace bc := Blk.gr bc hal
        clear hal
        generalize w3.heap.size = gd at *
        refine hK _ _ z ?_
        clear hK K
        refine wpW_branch [9] (by kernel_rfl) (by simp) ?_
        intro w4 hg4 hS4
        try clear z
        have z := hS4
        replace br := Blk.gr br hg4
        replace b4 := Blk.gr b4 hg4
        replace bc := Blk.gr bc hg4
        replace bd := Blk.gr bd hg4
        refine each_cons ?_ (each_nil)
        refine wpOp_go (by rfl) (Eq.refl _) (by go_simp; done) ?_
        intro K hK
        go_simp
        try simp only [Act.put]
        have b9 := Blk.new w4 110 #[.int .i64 (weldLow 0), .int .i64 (weldLow 1), .int .i64 (weldLow 2), .int .i64 (weldLow 3), .int .i64 (weldLow 4), .int .i64 (weldLow 5), .int .i64 (weldLow 6), .int .i64 (weldLow 7), .int .i64 (weldLow 8), .int .i64 (weldLow 9), .int .i64 (weldLow 10), .int .i64 (weldLow 11), .int .i64 0, .int .i64 (weldTop 0), .int .i64 (weldTop 1), .int .i64 (weldTop 2), .int .i64 (weldTop 3), .int .i64 (weldTop 4), .int .i64 (weldTop 5), .int .i64 (weldTop 6), .int .i64 (weldTop 7), .int .i64 (weldTop 8), .int .i64 (weldTop 9), .int .i64 (weldTop 10), .int .i64 (weldTop 11), .int .i64 1]
        have hal : Gr w4 (w4.alloc (.cells #[.int .i64 (weldLow 0), .int .i64 (weldLow 1), .int .i64 (weldLow 2), .int .i64 (weldLow 3), .int .i64 (weldLow 4), .int .i64 (weldLow 5), .int .i64 (weldLow 6), .int .i64 (weldLow 7), .int .i64 (weldLow 8), .int .i64 (weldLow 9), .int .i64 (weldLow 10), .int .i64 (weldLow 11), .int .i64 0, .int .i64 (weldTop 0), .int .i64 (weldTop 1), .int .i64 (weldTop 2), .int .i64 (weldTop 3), .int .i64 (weldTop 4), .int .i64 (weldTop 5), .int .i64 (weldTop 6), .int .i64 (weldTop 7), .int .i64 (weldTop 8), .int .i64 (weldTop 9), .int .i64 (weldTop 10), .int .i64 (weldTop 11), .int .i64 1] 110)) := (Below.refl _ _).alloc (Nat.le_refl _) _
        replace z := And.intro (Below.trans z.1 (Below.mono hal (Below.size z.1))) (Blk.gr z.2 hal)
        replace br := Blk.gr br hal
        try replace b4 := Blk.gr b4 hal
        try replace bc := Blk.gr bc hal
        try replace bd := Blk.gr bd hal
        clear hal
        generalize w4.heap.size = g9 at *
        refine hK _ _ z ?_
        clear hK K
        refine wpW_det (t' := ?ct10R7) 10 (by rfl) (by kernel_rfl) (NQ_free _) (by kernel_rfl) ?cw10R7 ?ch10R7 ?ca10R7 (Eq.refl _) ?cH10R7
        case cw10R7 => (go_simp; done)
        case ch10R7 =>
          intro ds w' hS K hK
          go_simp
          try go_bits
          exact hK _ hS (Gr.refl _)
        case ca10R7 => (first | (simp [Act.put]; done) | (simp [Act.put, *]; done))
        try dsimp only
        refine wpW_det (t' := ?ct18R8) 18 (by rfl) (by kernel_rfl) (NQ_free _) (by kernel_rfl) ?cw18R8 ?ch18R8 ?ca18R8 (Eq.refl _) ?cH18R8
        case cw18R8 => (go_simp; done)
        case ch18R8 =>
          intro ds w' hS K hK
          go_simp
          try go_bits
          exact hK _ hS (Gr.refl _)
        case ca18R8 => (first | (simp [Act.put]; done) | (simp [Act.put, *]; done))
        try dsimp only
        refine wpW_branch [19] (by kernel_rfl) (by simp) ?_
        intro wz hg_wz hS_wz
        replace br := Blk.gr br hg_wz
        replace b4 := Blk.gr b4 hg_wz
        replace b9 := Blk.gr b9 hg_wz
        replace bc := Blk.gr bc hg_wz
        replace bd := Blk.gr bd hg_wz
        obtain ⟨z0, z1, z2, z3, z4, z5, z6, z7, z8, z9, z10, z11, z12, zf⟩ := blk13 br
        have lr := br.lt
        refine each_cons ?_ each_nil
        refine wpOp_go (by rfl) (Eq.refl _) (by go_simp; done) ?_
        intro K hK
        go_simp
        try simp only [Act.put]
        refine hK _ _ (And.intro (Below.set13 hS_wz.1 HGR.out (.slice (some ⟨g4, 0, none⟩) 4 4) (.string ⟨#[99]⟩) (.slice none 0 0) (.slice (some ⟨g9, 0, none⟩) 2 2) (.int .i64 1000) (.slice (some ⟨gc, 0, none⟩) 1 1) (.int .i64 0) (.int .i64 20) (.int .i64 0) (.int .i64 10) (.int .i64 0) (.int .i64 60) (.slice (some ⟨gd, 0, none⟩) 2 2)) (Blk.far13 hS_wz.2 (Blk.ne_ hS_wz.2 br (by decide)) (.slice (some ⟨g4, 0, none⟩) 4 4) (.string ⟨#[99]⟩) (.slice none 0 0) (.slice (some ⟨g9, 0, none⟩) 2 2) (.int .i64 1000) (.slice (some ⟨gc, 0, none⟩) 1 1) (.int .i64 0) (.int .i64 20) (.int .i64 0) (.int .i64 10) (.int .i64 0) (.int .i64 60) (.slice (some ⟨gd, 0, none⟩) 2 2))) ?_
        clear hK K z0 z1 z2 z3 z4 z5 z6 z7 z8 z9 z10 z11 z12 zf lr
        refine wpW_end (by kernel_rfl) ?_
        intro we hg hS
        unfold NQ
        dsimp only
        exact H.out _ _ _ _ _ _ _ _ _ _ _ _ _ _ _ _ _ _ _ _ we (HOK.out (Blk.gr (b4.far13 (Blk.ne_ b4 br (by decide)) (.slice (some ⟨g4, 0, none⟩) 4 4) (.string ⟨#[99]⟩) (.slice none 0 0) (.slice (some ⟨g9, 0, none⟩) 2 2) (.int .i64 1000) (.slice (some ⟨gc, 0, none⟩) 1 1) (.int .i64 0) (.int .i64 20) (.int .i64 0) (.int .i64 10) (.int .i64 0) (.int .i64 60) (.slice (some ⟨gd, 0, none⟩) 2 2)) hg) (Blk.gr (b9.far13 (Blk.ne_ b9 br (by decide)) (.slice (some ⟨g4, 0, none⟩) 4 4) (.string ⟨#[99]⟩) (.slice none 0 0) (.slice (some ⟨g9, 0, none⟩) 2 2) (.int .i64 1000) (.slice (some ⟨gc, 0, none⟩) 1 1) (.int .i64 0) (.int .i64 20) (.int .i64 0) (.int .i64 10) (.int .i64 0) (.int .i64 60) (.slice (some ⟨gd, 0, none⟩) 2 2)) hg) (Blk.gr (bc.far13 (Blk.ne_ bc br (by decide)) (.slice (some ⟨g4, 0, none⟩) 4 4) (.string ⟨#[99]⟩) (.slice none 0 0) (.slice (some ⟨g9, 0, none⟩) 2 2) (.int .i64 1000) (.slice (some ⟨gc, 0, none⟩) 1 1) (.int .i64 0) (.int .i64 20) (.int .i64 0) (.int .i64 10) (.int .i64 0) (.int .i64 60) (.slice (some ⟨gd, 0, none⟩) 2 2)) hg) (Blk.gr (bd.far13 (Blk.ne_ bd br (by decide)) (.slice (some ⟨g4, 0, none⟩) 4 4) (.string ⟨#[99]⟩) (.slice none 0 0) (.slice (some ⟨g9, 0, none⟩) 2 2) (.int .i64 1000) (.slice (some ⟨gc, 0, none⟩) 1 1) (.int .i64 0) (.int .i64 20) (.int .i64 0) (.int .i64 10) (.int .i64 0) (.int .i64 60) (.slice (some ⟨gd, 0, none⟩) 2 2)) hg)) (Blk.gr (br.set13 (.slice (some ⟨g4, 0, none⟩) 4 4) (.string ⟨#[99]⟩) (.slice none 0 0) (.slice (some ⟨g9, 0, none⟩) 2 2) (.int .i64 1000) (.slice (some ⟨gc, 0, none⟩) 1 1) (.int .i64 0) (.int .i64 20) (.int .i64 0) (.int .i64 10) (.int .i64 0) (.int .i64 60) (.slice (some ⟨gd, 0, none⟩) 2 2)) hg) hS.1
    · refine wpOp_go (by rfl) (Eq.refl _) (by go_simp; done) ?_
      intro K hK
      go_simp
      try simp only [Act.put]
      have bd := Blk.new w2 75 #[.int .i64 100, .int .i64 5, .int .i64 900, .int .i64 12]
      have hal : Gr w2 (w2.alloc (.cells #[.int .i64 100, .int .i64 5, .int .i64 900, .int .i64 12] 75)) := (Below.refl _ _).alloc (Nat.le_refl _) _
      replace z := And.intro (Below.trans z.1 (Below.mono hal (Below.size z.1))) (Blk.gr z.2 hal)
      replace br := Blk.gr br hal
      try replace b4 := Blk.gr b4 hal
      try replace b9 := Blk.gr b9 hal
      try replace bc := Blk.gr bc hal
      clear hal
      generalize w2.heap.size = gd at *
      refine hK _ _ z ?_
      clear hK K
      refine wpW_branch [9, 12] (by kernel_rfl) (by simp) ?_
      intro w3 hg3 hS3
      try clear z
      have z := hS3
      replace br := Blk.gr br hg3
      replace b4 := Blk.gr b4 hg3
      replace bd := Blk.gr bd hg3
      refine each_cons ?_ (each_cons ?_ (each_nil))
      · refine wpOp_go (by rfl) (Eq.refl _) (by go_simp; done) ?_
        intro K hK
        go_simp
        try simp only [Act.put]
        have b9 := Blk.new w3 110 #[.int .i64 (weldLow 0), .int .i64 (weldLow 1), .int .i64 (weldLow 2), .int .i64 (weldLow 3), .int .i64 (weldLow 4), .int .i64 (weldLow 5), .int .i64 (weldLow 6), .int .i64 (weldLow 7), .int .i64 (weldLow 8), .int .i64 (weldLow 9), .int .i64 (weldLow 10), .int .i64 (weldLow 11), .int .i64 0, .int .i64 (weldTop 0), .int .i64 (weldTop 1), .int .i64 (weldTop 2), .int .i64 (weldTop 3), .int .i64 (weldTop 4), .int .i64 (weldTop 5), .int .i64 (weldTop 6), .int .i64 (weldTop 7), .int .i64 (weldTop 8), .int .i64 (weldTop 9), .int .i64 (weldTop 10), .int .i64 (weldTop 11), .int .i64 1]
        have hal : Gr w3 (w3.alloc (.cells #[.int .i64 (weldLow 0), .int .i64 (weldLow 1), .int .i64 (weldLow 2), .int .i64 (weldLow 3), .int .i64 (weldLow 4), .int .i64 (weldLow 5), .int .i64 (weldLow 6), .int .i64 (weldLow 7), .int .i64 (weldLow 8), .int .i64 (weldLow 9), .int .i64 (weldLow 10), .int .i64 (weldLow 11), .int .i64 0, .int .i64 (weldTop 0), .int .i64 (weldTop 1), .int .i64 (weldTop 2), .int .i64 (weldTop 3), .int .i64 (weldTop 4), .int .i64 (weldTop 5), .int .i64 (weldTop 6), .int .i64 (weldTop 7), .int .i64 (weldTop 8), .int .i64 (weldTop 9), .int .i64 (weldTop 10), .int .i64 (weldTop 11), .int .i64 1] 110)) := (Below.refl _ _).alloc (Nat.le_refl _) _
        replace z := And.intro (Below.trans z.1 (Below.mono hal (Below.size z.1))) (Blk.gr z.2 hal)
        replace br := Blk.gr br hal
        try replace b4 := Blk.gr b4 hal
        try replace bc := Blk.gr bc hal
        try replace bd := Blk.gr bd hal
        clear hal
        generalize w3.heap.size = g9 at *
        refine hK _ _ z ?_
        clear hK K
        refine wpW_det (t' := ?ct10R9) 10 (by rfl) (by kernel_rfl) (NQ_free _) (by kernel_rfl) ?cw10R9 ?ch10R9 ?ca10R9 (Eq.refl _) ?cH10R9
        case cw10R9 => (go_simp; done)
        case ch10R9 =>
          intro ds w' hS K hK
          go_simp
          try go_bits
          exact hK _ hS (Gr.refl _)
        case ca10R9 => (first | (simp [Act.put]; done) | (simp [Act.put, *]; done))
        try dsimp only
        refine wpW_branch [12] (by kernel_rfl) (by simp) ?_
        intro w4 hg4 hS4
        try clear z
        have z := hS4
        replace br := Blk.gr br hg4
        replace b4 := Blk.gr b4 hg4
        replace b9 := Blk.gr b9 hg4
        replace bd := Blk.gr bd hg4
        refine each_cons ?_ (each_nil)
        refine wpOp_go (by rfl) (Eq.refl _) (by go_simp; done) ?_
        intro K hK
        go_simp
        try simp only [Act.put]
        have bc := Blk.new w4 60 #[.string ⟨#[103, 97, 105, 110]⟩, .int .i64 100, .int .i64 50, .slice none 0 0]
        have hal : Gr w4 (w4.alloc (.cells #[.string ⟨#[103, 97, 105, 110]⟩, .int .i64 100, .int .i64 50, .slice none 0 0] 60)) := (Below.refl _ _).alloc (Nat.le_refl _) _
        replace z := And.intro (Below.trans z.1 (Below.mono hal (Below.size z.1))) (Blk.gr z.2 hal)
        replace br := Blk.gr br hal
        try replace b4 := Blk.gr b4 hal
        try replace b9 := Blk.gr b9 hal
        try replace bd := Blk.gr bd hal
        clear hal
        generalize w4.heap.size = gc at *
        refine hK _ _ z ?_
        clear hK K
        refine wpW_det (t' := ?ct18R10) 18 (by rfl) (by kernel_rfl) (NQ_free _) (by kernel_rfl) ?cw18R10 ?ch18R10 ?ca18R10 (Eq.refl _) ?cH18R10
        case cw18R10 => (go_simp; done)
        case ch18R10 =>
          intro ds w' hS K hK
          go_simp
          try go_bits
          exact hK _ hS (Gr.refl _)
        case ca18R10 => (first | (simp [Act.put]; done) | (simp [Act.put, *]; done))
        try dsimp only
        refine wpW_branch [19] (by kernel_rfl) (by simp) ?_
        intro wz hg_wz hS_wz
        replace br := Blk.gr br hg_wz
        replace b4 := Blk.gr b4 hg_wz
        replace b9 := Blk.gr b9 hg_wz
        replace bc := Blk.gr bc hg_wz
        replace bd := Blk.gr bd hg_wz
        obtain ⟨z0, z1, z2, z3, z4, z5, z6, z7, z8, z9, z10, z11, z12, zf⟩ := blk13 br
        have lr := br.lt
        refine each_cons ?_ each_nil
        refine wpOp_go (by rfl) (Eq.refl _) (by go_simp; done) ?_
        intro K hK
        go_simp
        try simp only [Act.put]
        refine hK _ _ (And.intro (Below.set13 hS_wz.1 HGR.out (.slice (some ⟨g4, 0, none⟩) 4 4) (.string ⟨#[99]⟩) (.slice none 0 0) (.slice (some ⟨g9, 0, none⟩) 2 2) (.int .i64 1000) (.slice (some ⟨gc, 0, none⟩) 1 1) (.int .i64 0) (.int .i64 20) (.int .i64 0) (.int .i64 10) (.int .i64 0) (.int .i64 60) (.slice (some ⟨gd, 0, none⟩) 2 2)) (Blk.far13 hS_wz.2 (Blk.ne_ hS_wz.2 br (by decide)) (.slice (some ⟨g4, 0, none⟩) 4 4) (.string ⟨#[99]⟩) (.slice none 0 0) (.slice (some ⟨g9, 0, none⟩) 2 2) (.int .i64 1000) (.slice (some ⟨gc, 0, none⟩) 1 1) (.int .i64 0) (.int .i64 20) (.int .i64 0) (.int .i64 10) (.int .i64 0) (.int .i64 60) (.slice (some ⟨gd, 0, none⟩) 2 2))) ?_
        clear hK K z0 z1 z2 z3 z4 z5 z6 z7 z8 z9 z10 z11 z12 zf lr
        refine wpW_end (by kernel_rfl) ?_
        intro we hg hS
        unfold NQ
        dsimp only
        exact H.out _ _ _ _ _ _ _ _ _ _ _ _ _ _ _ _ _ _ _ _ we (HOK.out (Blk.gr (b4.far13 (Blk.ne_ b4 br (by decide)) (.slice (some ⟨g4, 0, none⟩) 4 4) (.string ⟨#[99]⟩) (.slice none 0 0) (.slice (some ⟨g9, 0, none⟩) 2 2) (.int .i64 1000) (.slice (some ⟨gc, 0, none⟩) 1 1) (.int .i64 0) (.int .i64 20) (.int .i64 0) (.int .i64 10) (.int .i64 0) (.int .i64 60) (.slice (some ⟨gd, 0, none⟩) 2 2)) hg) (Blk.gr (b9.far13 (Blk.ne_ b9 br (by decide)) (.slice (some ⟨g4, 0, none⟩) 4 4) (.string ⟨#[99]⟩) (.slice none 0 0) (.slice (some ⟨g9, 0, none⟩) 2 2) (.int .i64 1000) (.slice (some ⟨gc, 0, none⟩) 1 1) (.int .i64 0) (.int .i64 20) (.int .i64 0) (.int .i64 10) (.int .i64 0) (.int .i64 60) (.slice (some ⟨gd, 0, none⟩) 2 2)) hg) (Blk.gr (bc.far13 (Blk.ne_ bc br (by decide)) (.slice (some ⟨g4, 0, none⟩) 4 4) (.string ⟨#[99]⟩) (.slice none 0 0) (.slice (some ⟨g9, 0, none⟩) 2 2) (.int .i64 1000) (.slice (some ⟨gc, 0, none⟩) 1 1) (.int .i64 0) (.int .i64 20) (.int .i64 0) (.int .i64 10) (.int .i64 0) (.int .i64 60) (.slice (some ⟨gd, 0, none⟩) 2 2)) hg) (Blk.gr (bd.far13 (Blk.ne_ bd br (by decide)) (.slice (some ⟨g4, 0, none⟩) 4 4) (.string ⟨#[99]⟩) (.slice none 0 0) (.slice (some ⟨g9, 0, none⟩) 2 2) (.int .i64 1000) (.slice (some ⟨gc, 0, none⟩) 1 1) (.int .i64 0) (.int .i64 20) (.int .i64 0) (.int .i64 10) (.int .i64 0) (.int .i64 60) (.slice (some ⟨gd, 0, none⟩) 2 2)) hg)) (Blk.gr (br.set13 (.slice (some ⟨g4, 0, none⟩) 4 4) (.string ⟨#[99]⟩) (.slice none 0 0) (.slice (some ⟨g9, 0, none⟩) 2 2) (.int .i64 1000) (.slice (some ⟨gc, 0, none⟩) 1 1) (.int .i64 0) (.int .i64 20) (.int .i64 0) (.int .i64 10) (.int .i64 0) (.int .i64 60) (.slice (some ⟨gd, 0, none⟩) 2 2)) hg) hS.1
      · refine wpOp_go (by rfl) (Eq.refl _) (by go_simp; done) ?_
        intro K hK
        go_simp
        try simp only [Act.put]
        have bc := Blk.new w3 60 #[.string ⟨#[103, 97, 105, 110]⟩, .int .i64 100, .int .i64 50, .slice none 0 0]
        have hal : Gr w3 (w3.alloc (.cells #[.string ⟨#[103, 97, 105, 110]⟩, .int .i64 100, .int .i64 50, .slice none 0 0] 60)) := (Below.refl _ _).alloc (Nat.le_refl _) _
        replace z := And.intro (Below.trans z.1 (Below.mono hal (Below.size z.1))) (Blk.gr z.2 hal)
        replace br := Blk.gr br hal
        try replace b4 := Blk.gr b4 hal
        try replace b9 := Blk.gr b9 hal
        try replace bd := Blk.gr bd hal
        clear hal
        generalize w3.heap.size = gc at *
        refine hK _ _ z ?_
        clear hK K
        refine wpW_branch [9] (by kernel_rfl) (by simp) ?_
        intro w4 hg4 hS4
        try clear z
        have z := hS4
        replace br := Blk.gr br hg4
        replace b4 := Blk.gr b4 hg4
        replace bc := Blk.gr bc hg4
        replace bd := Blk.gr bd hg4
        refine each_cons ?_ (each_nil)
        refine wpOp_go (by rfl) (Eq.refl _) (by go_simp; done) ?_
        intro K hK
        go_simp
        try simp only [Act.put]
        have b9 := Blk.new w4 110 #[.int .i64 (weldLow 0), .int .i64 (weldLow 1), .int .i64 (weldLow 2), .int .i64 (weldLow 3), .int .i64 (weldLow 4), .int .i64 (weldLow 5), .int .i64 (weldLow 6), .int .i64 (weldLow 7), .int .i64 (weldLow 8), .int .i64 (weldLow 9), .int .i64 (weldLow 10), .int .i64 (weldLow 11), .int .i64 0, .int .i64 (weldTop 0), .int .i64 (weldTop 1), .int .i64 (weldTop 2), .int .i64 (weldTop 3), .int .i64 (weldTop 4), .int .i64 (weldTop 5), .int .i64 (weldTop 6), .int .i64 (weldTop 7), .int .i64 (weldTop 8), .int .i64 (weldTop 9), .int .i64 (weldTop 10), .int .i64 (weldTop 11), .int .i64 1]
        have hal : Gr w4 (w4.alloc (.cells #[.int .i64 (weldLow 0), .int .i64 (weldLow 1), .int .i64 (weldLow 2), .int .i64 (weldLow 3), .int .i64 (weldLow 4), .int .i64 (weldLow 5), .int .i64 (weldLow 6), .int .i64 (weldLow 7), .int .i64 (weldLow 8), .int .i64 (weldLow 9), .int .i64 (weldLow 10), .int .i64 (weldLow 11), .int .i64 0, .int .i64 (weldTop 0), .int .i64 (weldTop 1), .int .i64 (weldTop 2), .int .i64 (weldTop 3), .int .i64 (weldTop 4), .int .i64 (weldTop 5), .int .i64 (weldTop 6), .int .i64 (weldTop 7), .int .i64 (weldTop 8), .int .i64 (weldTop 9), .int .i64 (weldTop 10), .int .i64 (weldTop 11), .int .i64 1] 110)) := (Below.refl _ _).alloc (Nat.le_refl _) _
        replace z := And.intro (Below.trans z.1 (Below.mono hal (Below.size z.1))) (Blk.gr z.2 hal)
        replace br := Blk.gr br hal
        try replace b4 := Blk.gr b4 hal
        try replace bc := Blk.gr bc hal
        try replace bd := Blk.gr bd hal
        clear hal
        generalize w4.heap.size = g9 at *
        refine hK _ _ z ?_
        clear hK K
        refine wpW_det (t' := ?ct10R11) 10 (by rfl) (by kernel_rfl) (NQ_free _) (by kernel_rfl) ?cw10R11 ?ch10R11 ?ca10R11 (Eq.refl _) ?cH10R11
        case cw10R11 => (go_simp; done)
        case ch10R11 =>
          intro ds w' hS K hK
          go_simp
          try go_bits
          exact hK _ hS (Gr.refl _)
        case ca10R11 => (first | (simp [Act.put]; done) | (simp [Act.put, *]; done))
        try dsimp only
        refine wpW_det (t' := ?ct18R12) 18 (by rfl) (by kernel_rfl) (NQ_free _) (by kernel_rfl) ?cw18R12 ?ch18R12 ?ca18R12 (Eq.refl _) ?cH18R12
        case cw18R12 => (go_simp; done)
        case ch18R12 =>
          intro ds w' hS K hK
          go_simp
          try go_bits
          exact hK _ hS (Gr.refl _)
        case ca18R12 => (first | (simp [Act.put]; done) | (simp [Act.put, *]; done))
        try dsimp only
        refine wpW_branch [19] (by kernel_rfl) (by simp) ?_
        intro wz hg_wz hS_wz
        replace br := Blk.gr br hg_wz
        replace b4 := Blk.gr b4 hg_wz
        replace b9 := Blk.gr b9 hg_wz
        replace bc := Blk.gr bc hg_wz
        replace bd := Blk.gr bd hg_wz
        obtain ⟨z0, z1, z2, z3, z4, z5, z6, z7, z8, z9, z10, z11, z12, zf⟩ := blk13 br
        have lr := br.lt
        refine each_cons ?_ each_nil
        refine wpOp_go (by rfl) (Eq.refl _) (by go_simp; done) ?_
        intro K hK
        go_simp
        try simp only [Act.put]
        refine hK _ _ (And.intro (Below.set13 hS_wz.1 HGR.out (.slice (some ⟨g4, 0, none⟩) 4 4) (.string ⟨#[99]⟩) (.slice none 0 0) (.slice (some ⟨g9, 0, none⟩) 2 2) (.int .i64 1000) (.slice (some ⟨gc, 0, none⟩) 1 1) (.int .i64 0) (.int .i64 20) (.int .i64 0) (.int .i64 10) (.int .i64 0) (.int .i64 60) (.slice (some ⟨gd, 0, none⟩) 2 2)) (Blk.far13 hS_wz.2 (Blk.ne_ hS_wz.2 br (by decide)) (.slice (some ⟨g4, 0, none⟩) 4 4) (.string ⟨#[99]⟩) (.slice none 0 0) (.slice (some ⟨g9, 0, none⟩) 2 2) (.int .i64 1000) (.slice (some ⟨gc, 0, none⟩) 1 1) (.int .i64 0) (.int .i64 20) (.int .i64 0) (.int .i64 10) (.int .i64 0) (.int .i64 60) (.slice (some ⟨gd, 0, none⟩) 2 2))) ?_
        clear hK K z0 z1 z2 z3 z4 z5 z6 z7 z8 z9 z10 z11 z12 zf lr
        refine wpW_end (by kernel_rfl) ?_
        intro we hg hS
        unfold NQ
        dsimp only
        exact H.out _ _ _ _ _ _ _ _ _ _ _ _ _ _ _ _ _ _ _ _ we (HOK.out (Blk.gr (b4.far13 (Blk.ne_ b4 br (by decide)) (.slice (some ⟨g4, 0, none⟩) 4 4) (.string ⟨#[99]⟩) (.slice none 0 0) (.slice (some ⟨g9, 0, none⟩) 2 2) (.int .i64 1000) (.slice (some ⟨gc, 0, none⟩) 1 1) (.int .i64 0) (.int .i64 20) (.int .i64 0) (.int .i64 10) (.int .i64 0) (.int .i64 60) (.slice (some ⟨gd, 0, none⟩) 2 2)) hg) (Blk.gr (b9.far13 (Blk.ne_ b9 br (by decide)) (.slice (some ⟨g4, 0, none⟩) 4 4) (.string ⟨#[99]⟩) (.slice none 0 0) (.slice (some ⟨g9, 0, none⟩) 2 2) (.int .i64 1000) (.slice (some ⟨gc, 0, none⟩) 1 1) (.int .i64 0) (.int .i64 20) (.int .i64 0) (.int .i64 10) (.int .i64 0) (.int .i64 60) (.slice (some ⟨gd, 0, none⟩) 2 2)) hg) (Blk.gr (bc.far13 (Blk.ne_ bc br (by decide)) (.slice (some ⟨g4, 0, none⟩) 4 4) (.string ⟨#[99]⟩) (.slice none 0 0) (.slice (some ⟨g9, 0, none⟩) 2 2) (.int .i64 1000) (.slice (some ⟨gc, 0, none⟩) 1 1) (.int .i64 0) (.int .i64 20) (.int .i64 0) (.int .i64 10) (.int .i64 0) (.int .i64 60) (.slice (some ⟨gd, 0, none⟩) 2 2)) hg) (Blk.gr (bd.far13 (Blk.ne_ bd br (by decide)) (.slice (some ⟨g4, 0, none⟩) 4 4) (.string ⟨#[99]⟩) (.slice none 0 0) (.slice (some ⟨g9, 0, none⟩) 2 2) (.int .i64 1000) (.slice (some ⟨gc, 0, none⟩) 1 1) (.int .i64 0) (.int .i64 20) (.int .i64 0) (.int .i64 10) (.int .i64 0) (.int .i64 60) (.slice (some ⟨gd, 0, none⟩) 2 2)) hg)) (Blk.gr (br.set13 (.slice (some ⟨g4, 0, none⟩) 4 4) (.string ⟨#[99]⟩) (.slice none 0 0) (.slice (some ⟨g9, 0, none⟩) 2 2) (.int .i64 1000) (.slice (some ⟨gc, 0, none⟩) 1 1) (.int .i64 0) (.int .i64 20) (.int .i64 0) (.int .i64 10) (.int .i64 0) (.int .i64 60) (.slice (some ⟨gd, 0, none⟩) 2 2)) hg) hS.1
  · refine wpOp_go (by rfl) (Eq.refl _) (by go_simp; done) ?_
    intro K hK
    go_simp
    try simp only [Act.put]
    have b9 := Blk.new w1 110 #[.int .i64 (weldLow 0), .int .i64 (weldLow 1), .int .i64 (weldLow 2), .int .i64 (weldLow 3), .int .i64 (weldLow 4), .int .i64 (weldLow 5), .int .i64 (weldLow 6), .int .i64 (weldLow 7), .int .i64 (weldLow 8), .int .i64 (weldLow 9), .int .i64 (weldLow 10), .int .i64 (weldLow 11), .int .i64 0, .int .i64 (weldTop 0), .int .i64 (weldTop 1), .int .i64 (weldTop 2), .int .i64 (weldTop 3), .int .i64 (weldTop 4), .int .i64 (weldTop 5), .int .i64 (weldTop 6), .int .i64 (weldTop 7), .int .i64 (weldTop 8), .int .i64 (weldTop 9), .int .i64 (weldTop 10), .int .i64 (weldTop 11), .int .i64 1]
    have hal : Gr w1 (w1.alloc (.cells #[.int .i64 (weldLow 0), .int .i64 (weldLow 1), .int .i64 (weldLow 2), .int .i64 (weldLow 3), .int .i64 (weldLow 4), .int .i64 (weldLow 5), .int .i64 (weldLow 6), .int .i64 (weldLow 7), .int .i64 (weldLow 8), .int .i64 (weldLow 9), .int .i64 (weldLow 10), .int .i64 (weldLow 11), .int .i64 0, .int .i64 (weldTop 0), .int .i64 (weldTop 1), .int .i64 (weldTop 2), .int .i64 (weldTop 3), .int .i64 (weldTop 4), .int .i64 (weldTop 5), .int .i64 (weldTop 6), .int .i64 (weldTop 7), .int .i64 (weldTop 8), .int .i64 (weldTop 9), .int .i64 (weldTop 10), .int .i64 (weldTop 11), .int .i64 1] 110)) := (Below.refl _ _).alloc (Nat.le_refl _) _
    replace z := And.intro (Below.trans z.1 (Below.mono hal (Below.size z.1))) (Blk.gr z.2 hal)
    replace br := Blk.gr br hal
    try replace b4 := Blk.gr b4 hal
    try replace bc := Blk.gr bc hal
    try replace bd := Blk.gr bd hal
    clear hal
    generalize w1.heap.size = g9 at *
    refine hK _ _ z ?_
    clear hK K
    refine wpW_det (t' := ?ct10R13) 10 (by rfl) (by kernel_rfl) (NQ_free _) (by kernel_rfl) ?cw10R13 ?ch10R13 ?ca10R13 (Eq.refl _) ?cH10R13
    case cw10R13 => (go_simp; done)
    case ch10R13 =>
      intro ds w' hS K hK
      go_simp
      try go_bits
      exact hK _ hS (Gr.refl _)
    case ca10R13 => (first | (simp [Act.put]; done) | (simp [Act.put, *]; done))
    try dsimp only
    refine wpW_branch [4, 12, 17] (by kernel_rfl) (by simp) ?_
    intro w2 hg2 hS2
    try clear z
    have z := hS2
    replace br := Blk.gr br hg2
    replace b9 := Blk.gr b9 hg2
    refine each_cons ?_ (each_cons ?_ (each_cons ?_ (each_nil)))
    · refine wpOp_go (by rfl) (Eq.refl _) (by go_simp; done) ?_
      intro K hK
      go_simp
      try simp only [Act.put]
      have b4 := Blk.new w2 57 #[.string ⟨#[97, 110, 110]⟩, .int .i64 1, .string ⟨#[98, 111, 98]⟩, .int .i64 2, .string ⟨#[99, 105, 100]⟩, .int .i64 2, .string ⟨#[100, 111, 114, 97]⟩, .int .i64 3]
      have hal : Gr w2 (w2.alloc (.cells #[.string ⟨#[97, 110, 110]⟩, .int .i64 1, .string ⟨#[98, 111, 98]⟩, .int .i64 2, .string ⟨#[99, 105, 100]⟩, .int .i64 2, .string ⟨#[100, 111, 114, 97]⟩, .int .i64 3] 57)) := (Below.refl _ _).alloc (Nat.le_refl _) _
      replace z := And.intro (Below.trans z.1 (Below.mono hal (Below.size z.1))) (Blk.gr z.2 hal)
      replace br := Blk.gr br hal
      try replace b9 := Blk.gr b9 hal
      try replace bc := Blk.gr bc hal
      try replace bd := Blk.gr bd hal
      clear hal
      generalize w2.heap.size = g4 at *
      refine hK _ _ z ?_
      clear hK K
      refine wpW_branch [12, 17] (by kernel_rfl) (by simp) ?_
      intro w3 hg3 hS3
      try clear z
      have z := hS3
      replace br := Blk.gr br hg3
      replace b4 := Blk.gr b4 hg3
      replace b9 := Blk.gr b9 hg3
      refine each_cons ?_ (each_cons ?_ (each_nil))
      · refine wpOp_go (by rfl) (Eq.refl _) (by go_simp; done) ?_
        intro K hK
        go_simp
        try simp only [Act.put]
        have bc := Blk.new w3 60 #[.string ⟨#[103, 97, 105, 110]⟩, .int .i64 100, .int .i64 50, .slice none 0 0]
        have hal : Gr w3 (w3.alloc (.cells #[.string ⟨#[103, 97, 105, 110]⟩, .int .i64 100, .int .i64 50, .slice none 0 0] 60)) := (Below.refl _ _).alloc (Nat.le_refl _) _
        replace z := And.intro (Below.trans z.1 (Below.mono hal (Below.size z.1))) (Blk.gr z.2 hal)
        replace br := Blk.gr br hal
        try replace b4 := Blk.gr b4 hal
        try replace b9 := Blk.gr b9 hal
        try replace bd := Blk.gr bd hal
        clear hal
        generalize w3.heap.size = gc at *
        refine hK _ _ z ?_
        clear hK K
        refine wpW_branch [17] (by kernel_rfl) (by simp) ?_
        intro w4 hg4 hS4
        try clear z
        have z := hS4
        replace br := Blk.gr br hg4
        replace b4 := Blk.gr b4 hg4
        replace b9 := Blk.gr b9 hg4
        replace bc := Blk.gr bc hg4
        refine each_cons ?_ (each_nil)
        refine wpOp_go (by rfl) (Eq.refl _) (by go_simp; done) ?_
        intro K hK
        go_simp
        try simp only [Act.put]
        have bd := Blk.new w4 75 #[.int .i64 100, .int .i64 5, .int .i64 900, .int .i64 12]
        have hal : Gr w4 (w4.alloc (.cells #[.int .i64 100, .int .i64 5, .int .i64 900, .int .i64 12] 75)) := (Below.refl _ _).alloc (Nat.le_refl _) _
        replace z := And.intro (Below.trans z.1 (Below.mono hal (Below.size z.1))) (Blk.gr z.2 hal)
        replace br := Blk.gr br hal
        try replace b4 := Blk.gr b4 hal
        try replace b9 := Blk.gr b9 hal
        try replace bc := Blk.gr bc hal
        clear hal
        generalize w4.heap.size = gd at *
        refine hK _ _ z ?_
        clear hK K
        refine wpW_det (t' := ?ct18R14) 18 (by rfl) (by kernel_rfl) (NQ_free _) (by kernel_rfl) ?cw18R14 ?ch18R14 ?ca18R14 (Eq.refl _) ?cH18R14
        case cw18R14 => (go_simp; done)
        case ch18R14 =>
          intro ds w' hS K hK
          go_simp
          try go_bits
          exact hK _ hS (Gr.refl _)
        case ca18R14 => (first | (simp [Act.put]; done) | (simp [Act.put, *]; done))
        try dsimp only
        refine wpW_branch [19] (by kernel_rfl) (by simp) ?_
        intro wz hg_wz hS_wz
        replace br := Blk.gr br hg_wz
        replace b4 := Blk.gr b4 hg_wz
        replace b9 := Blk.gr b9 hg_wz
        replace bc := Blk.gr bc hg_wz
        replace bd := Blk.gr bd hg_wz
        obtain ⟨z0, z1, z2, z3, z4, z5, z6, z7, z8, z9, z10, z11, z12, zf⟩ := blk13 br
        have lr := br.lt
        refine each_cons ?_ each_nil
        refine wpOp_go (by rfl) (Eq.refl _) (by go_simp; done) ?_
        intro K hK
        go_simp
        try simp only [Act.put]
        refine hK _ _ (And.intro (Below.set13 hS_wz.1 HGR.out (.slice (some ⟨g4, 0, none⟩) 4 4) (.string ⟨#[99]⟩) (.slice none 0 0) (.slice (some ⟨g9, 0, none⟩) 2 2) (.int .i64 1000) (.slice (some ⟨gc, 0, none⟩) 1 1) (.int .i64 0) (.int .i64 20) (.int .i64 0) (.int .i64 10) (.int .i64 0) (.int .i64 60) (.slice (some ⟨gd, 0, none⟩) 2 2)) (Blk.far13 hS_wz.2 (Blk.ne_ hS_wz.2 br (by decide)) (.slice (some ⟨g4, 0, none⟩) 4 4) (.string ⟨#[99]⟩) (.slice none 0 0) (.slice (some ⟨g9, 0, none⟩) 2 2) (.int .i64 1000) (.slice (some ⟨gc, 0, none⟩) 1 1) (.int .i64 0) (.int .i64 20) (.int .i64 0) (.int .i64 10) (.int .i64 0) (.int .i64 60) (.slice (some ⟨gd, 0, none⟩) 2 2))) ?_
        clear hK K z0 z1 z2 z3 z4 z5 z6 z7 z8 z9 z10 z11 z12 zf lr
        refine wpW_end (by kernel_rfl) ?_
        intro we hg hS
        unfold NQ
        dsimp only
        exact H.out _ _ _ _ _ _ _ _ _ _ _ _ _ _ _ _ _ _ _ _ we (HOK.out (Blk.gr (b4.far13 (Blk.ne_ b4 br (by decide)) (.slice (some ⟨g4, 0, none⟩) 4 4) (.string ⟨#[99]⟩) (.slice none 0 0) (.slice (some ⟨g9, 0, none⟩) 2 2) (.int .i64 1000) (.slice (some ⟨gc, 0, none⟩) 1 1) (.int .i64 0) (.int .i64 20) (.int .i64 0) (.int .i64 10) (.int .i64 0) (.int .i64 60) (.slice (some ⟨gd, 0, none⟩) 2 2)) hg) (Blk.gr (b9.far13 (Blk.ne_ b9 br (by decide)) (.slice (some ⟨g4, 0, none⟩) 4 4) (.string ⟨#[99]⟩) (.slice none 0 0) (.slice (some ⟨g9, 0, none⟩) 2 2) (.int .i64 1000) (.slice (some ⟨gc, 0, none⟩) 1 1) (.int .i64 0) (.int .i64 20) (.int .i64 0) (.int .i64 10) (.int .i64 0) (.int .i64 60) (.slice (some ⟨gd, 0, none⟩) 2 2)) hg) (Blk.gr (bc.far13 (Blk.ne_ bc br (by decide)) (.slice (some ⟨g4, 0, none⟩) 4 4) (.string ⟨#[99]⟩) (.slice none 0 0) (.slice (some ⟨g9, 0, none⟩) 2 2) (.int .i64 1000) (.slice (some ⟨gc, 0, none⟩) 1 1) (.int .i64 0) (.int .i64 20) (.int .i64 0) (.int .i64 10) (.int .i64 0) (.int .i64 60) (.slice (some ⟨gd, 0, none⟩) 2 2)) hg) (Blk.gr (bd.far13 (Blk.ne_ bd br (by decide)) (.slice (some ⟨g4, 0, none⟩) 4 4) (.string ⟨#[99]⟩) (.slice none 0 0) (.slice (some ⟨g9, 0, none⟩) 2 2) (.int .i64 1000) (.slice (some ⟨gc, 0, none⟩) 1 1) (.int .i64 0) (.int .i64 20) (.int .i64 0) (.int .i64 10) (.int .i64 0) (.int .i64 60) (.slice (some ⟨gd, 0, none⟩) 2 2)) hg)) (Blk.gr (br.set13 (.slice (some ⟨g4, 0, none⟩) 4 4) (.string ⟨#[99]⟩) (.slice none 0 0) (.slice (some ⟨g9, 0, none⟩) 2 2) (.int .i64 1000) (.slice (some ⟨gc, 0, none⟩) 1 1) (.int .i64 0) (.int .i64 20) (.int .i64 0) (.int .i64 10) (.int .i64 0) (.int .i64 60) (.slice (some ⟨gd, 0, none⟩) 2 2)) hg) hS.1
      · refine wpOp_go (by rfl) (Eq.refl _) (by go_simp; done) ?_
        intro K hK
        go_simp
        try simp only [Act.put]
        have bd := Blk.new w3 75 #[.int .i64 100, .int .i64 5, .int .i64 900, .int .i64 12]
        have hal : Gr w3 (w3.alloc (.cells #[.int .i64 100, .int .i64 5, .int .i64 900, .int .i64 12] 75)) := (Below.refl _ _).alloc (Nat.le_refl _) _
        replace z := And.intro (Below.trans z.1 (Below.mono hal (Below.size z.1))) (Blk.gr z.2 hal)
        replace br := Blk.gr br hal
        try replace b4 := Blk.gr b4 hal
        try replace b9 := Blk.gr b9 hal
        try replace bc := Blk.gr bc hal
        clear hal
        generalize w3.heap.size = gd at *
        refine hK _ _ z ?_
        clear hK K
        refine wpW_branch [12] (by kernel_rfl) (by simp) ?_
        intro w4 hg4 hS4
        try clear z
        have z := hS4
        replace br := Blk.gr br hg4
        replace b4 := Blk.gr b4 hg4
        replace b9 := Blk.gr b9 hg4
        replace bd := Blk.gr bd hg4
        refine each_cons ?_ (each_nil)
        refine wpOp_go (by rfl) (Eq.refl _) (by go_simp; done) ?_
        intro K hK
        go_simp
        try simp only [Act.put]
        have bc := Blk.new w4 60 #[.string ⟨#[103, 97, 105, 110]⟩, .int .i64 100, .int .i64 50, .slice none 0 0]
        have hal : Gr w4 (w4.alloc (.cells #[.string ⟨#[103, 97, 105, 110]⟩, .int .i64 100, .int .i64 50, .slice none 0 0] 60)) := (Below.refl _ _).alloc (Nat.le_refl _) _
        replace z := And.intro (Below.trans z.1 (Below.mono hal (Below.size z.1))) (Blk.gr z.2 hal)
        replace br := Blk.gr br hal
        try replace b4 := Blk.gr b4 hal
        try replace b9 := Blk.gr b9 hal
        try replace bd := Blk.gr bd hal
        clear hal
        generalize w4.heap.size = gc at *
        refine hK _ _ z ?_
        clear hK K
        refine wpW_det (t' := ?ct18R15) 18 (by rfl) (by kernel_rfl) (NQ_free _) (by kernel_rfl) ?cw18R15 ?ch18R15 ?ca18R15 (Eq.refl _) ?cH18R15
        case cw18R15 => (go_simp; done)
        case ch18R15 =>
          intro ds w' hS K hK
          go_simp
          try go_bits
          exact hK _ hS (Gr.refl _)
        case ca18R15 => (first | (simp [Act.put]; done) | (simp [Act.put, *]; done))
        try dsimp only
        refine wpW_branch [19] (by kernel_rfl) (by simp) ?_
        intro wz hg_wz hS_wz
        replace br := Blk.gr br hg_wz
        replace b4 := Blk.gr b4 hg_wz
        replace b9 := Blk.gr b9 hg_wz
        replace bc := Blk.gr bc hg_wz
        replace bd := Blk.gr bd hg_wz
        obtain ⟨z0, z1, z2, z3, z4, z5, z6, z7, z8, z9, z10, z11, z12, zf⟩ := blk13 br
        have lr := br.lt
        refine each_cons ?_ each_nil
        refine wpOp_go (by rfl) (Eq.refl _) (by go_simp; done) ?_
        intro K hK
        go_simp
        try simp only [Act.put]
        refine hK _ _ (And.intro (Below.set13 hS_wz.1 HGR.out (.slice (some ⟨g4, 0, none⟩) 4 4) (.string ⟨#[99]⟩) (.slice none 0 0) (.slice (some ⟨g9, 0, none⟩) 2 2) (.int .i64 1000) (.slice (some ⟨gc, 0, none⟩) 1 1) (.int .i64 0) (.int .i64 20) (.int .i64 0) (.int .i64 10) (.int .i64 0) (.int .i64 60) (.slice (some ⟨gd, 0, none⟩) 2 2)) (Blk.far13 hS_wz.2 (Blk.ne_ hS_wz.2 br (by decide)) (.slice (some ⟨g4, 0, none⟩) 4 4) (.string ⟨#[99]⟩) (.slice none 0 0) (.slice (some ⟨g9, 0, none⟩) 2 2) (.int .i64 1000) (.slice (some ⟨gc, 0, none⟩) 1 1) (.int .i64 0) (.int .i64 20) (.int .i64 0) (.int .i64 10) (.int .i64 0) (.int .i64 60) (.slice (some ⟨gd, 0, none⟩) 2 2))) ?_
        clear hK K z0 z1 z2 z3 z4 z5 z6 z7 z8 z9 z10 z11 z12 zf lr
        refine wpW_end (by kernel_rfl) ?_
        intro we hg hS
        unfold NQ
        dsimp only
        exact H.out _ _ _ _ _ _ _ _ _ _ _ _ _ _ _ _ _ _ _ _ we (HOK.out (Blk.gr (b4.far13 (Blk.ne_ b4 br (by decide)) (.slice (some ⟨g4, 0, none⟩) 4 4) (.string ⟨#[99]⟩) (.slice none 0 0) (.slice (some ⟨g9, 0, none⟩) 2 2) (.int .i64 1000) (.slice (some ⟨gc, 0, none⟩) 1 1) (.int .i64 0) (.int .i64 20) (.int .i64 0) (.int .i64 10) (.int .i64 0) (.int .i64 60) (.slice (some ⟨gd, 0, none⟩) 2 2)) hg) (Blk.gr (b9.far13 (Blk.ne_ b9 br (by decide)) (.slice (some ⟨g4, 0, none⟩) 4 4) (.string ⟨#[99]⟩) (.slice none 0 0) (.slice (some ⟨g9, 0, none⟩) 2 2) (.int .i64 1000) (.slice (some ⟨gc, 0, none⟩) 1 1) (.int .i64 0) (.int .i64 20) (.int .i64 0) (.int .i64 10) (.int .i64 0) (.int .i64 60) (.slice (some ⟨gd, 0, none⟩) 2 2)) hg) (Blk.gr (bc.far13 (Blk.ne_ bc br (by decide)) (.slice (some ⟨g4, 0, none⟩) 4 4) (.string ⟨#[99]⟩) (.slice none 0 0) (.slice (some ⟨g9, 0, none⟩) 2 2) (.int .i64 1000) (.slice (some ⟨gc, 0, none⟩) 1 1) (.int .i64 0) (.int .i64 20) (.int .i64 0) (.int .i64 10) (.int .i64 0) (.int .i64 60) (.slice (some ⟨gd, 0, none⟩) 2 2)) hg) (Blk.gr (bd.far13 (Blk.ne_ bd br (by decide)) (.slice (some ⟨g4, 0, none⟩) 4 4) (.string ⟨#[99]⟩) (.slice none 0 0) (.slice (some ⟨g9, 0, none⟩) 2 2) (.int .i64 1000) (.slice (some ⟨gc, 0, none⟩) 1 1) (.int .i64 0) (.int .i64 20) (.int .i64 0) (.int .i64 10) (.int .i64 0) (.int .i64 60) (.slice (some ⟨gd, 0, none⟩) 2 2)) hg)) (Blk.gr (br.set13 (.slice (some ⟨g4, 0, none⟩) 4 4) (.string ⟨#[99]⟩) (.slice none 0 0) (.slice (some ⟨g9, 0, none⟩) 2 2) (.int .i64 1000) (.slice (some ⟨gc, 0, none⟩) 1 1) (.int .i64 0) (.int .i64 20) (.int .i64 0) (.int .i64 10) (.int .i64 0) (.int .i64 60) (.slice (some ⟨gd, 0, none⟩) 2 2)) hg) hS.1
    · refine wpOp_go (by rfl) (Eq.refl _) (by go_simp; done) ?_
      intro K hK
      go_simp
      try simp only [Act.put]
      have bc := Blk.new w2 60 #[.string ⟨#[103, 97, 105, 110]⟩, .int .i64 100, .int .i64 50, .slice none 0 0]
      have hal : Gr w2 (w2.alloc (.cells #[.string ⟨#[103, 97, 105, 110]⟩, .int .i64 100, .int .i64 50, .slice none 0 0] 60)) := (Below.refl _ _).alloc (Nat.le_refl _) _
      replace z := And.intro (Below.trans z.1 (Below.mono hal (Below.size z.1))) (Blk.gr z.2 hal)
      replace br := Blk.gr br hal
      try replace b4 := Blk.gr b4 hal
      try replace b9 := Blk.gr b9 hal
      try replace bd := Blk.gr bd hal
      clear hal
      generalize w2.heap.size = gc at *
      refine hK _ _ z ?_
      clear hK K
      refine wpW_branch [4, 17] (by kernel_rfl) (by simp) ?_
      intro w3 hg3 hS3
      try clear z
      have z := hS3
      replace br := Blk.gr br hg3
      replace b9 := Blk.gr b9 hg3
      replace bc := Blk.gr bc hg3
      refine each_cons ?_ (each_cons ?_ (each_nil))
      · refine wpOp_go (by rfl) (Eq.refl _) (by go_simp; done) ?_
        intro K hK
        go_simp
        try simp only [Act.put]
        have b4 := Blk.new w3 57 #[.string ⟨#[97, 110, 110]⟩, .int .i64 1, .string ⟨#[98, 111, 98]⟩, .int .i64 2, .string ⟨#[99, 105, 100]⟩, .int .i64 2, .string ⟨#[100, 111, 114, 97]⟩, .int .i64 3]
        have hal : Gr w3 (w3.alloc (.cells #[.string ⟨#[97, 110, 110]⟩, .int .i64 1, .string ⟨#[98, 111, 98]⟩, .int .i64 2, .string ⟨#[99, 105, 100]⟩, .int .i64 2, .string ⟨#[100, 111, 114, 97]⟩, .int .i64 3] 57)) := (Below.refl _ _).alloc (Nat.le_refl _) _
        replace z := And.intro (Below.trans z.1 (Below.mono hal (Below.size z.1))) (Blk.gr z.2 hal)
        replace br := Blk.gr br hal
        try replace b9 := Blk.gr b9 hal
        try replace bc := Blk.gr bc hal
        try replace bd := Blk.gr bd hal
        clear hal
        generalize w3.heap.size = g4 at *
        refine hK _ _ z ?_
        clear hK K
        refine wpW_branch [17] (by kernel_rfl) (by simp) ?_
        intro w4 hg4 hS4
        try clear z
        have z := hS4
        replace br := Blk.gr br hg4
        replace b4 := Blk.gr b4 hg4
        replace b9 := Blk.gr b9 hg4
        replace bc := Blk.gr bc hg4
        refine each_cons ?_ (each_nil)
        refine wpOp_go (by rfl) (Eq.refl _) (by go_simp; done) ?_
        intro K hK
        go_simp
        try simp only [Act.put]
        have bd := Blk.new w4 75 #[.int .i64 100, .int .i64 5, .int .i64 900, .int .i64 12]
        have hal : Gr w4 (w4.alloc (.cells #[.int .i64 100, .int .i64 5, .int .i64 900, .int .i64 12] 75)) := (Below.refl _ _).alloc (Nat.le_refl _) _
        replace z := And.intro (Below.trans z.1 (Below.mono hal (Below.size z.1))) (Blk.gr z.2 hal)
        replace br := Blk.gr br hal
        try replace b4 := Blk.gr b4 hal
        try replace b9 := Blk.gr b9 hal
        try replace bc := Blk.gr bc hal
        clear hal
        generalize w4.heap.size = gd at *
        refine hK _ _ z ?_
        clear hK K
        refine wpW_det (t' := ?ct18R16) 18 (by rfl) (by kernel_rfl) (NQ_free _) (by kernel_rfl) ?cw18R16 ?ch18R16 ?ca18R16 (Eq.refl _) ?cH18R16
        case cw18R16 => (go_simp; done)
        case ch18R16 =>
          intro ds w' hS K hK
          go_simp
          try go_bits
          exact hK _ hS (Gr.refl _)
        case ca18R16 => (first | (simp [Act.put]; done) | (simp [Act.put, *]; done))
        try dsimp only
        refine wpW_branch [19] (by kernel_rfl) (by simp) ?_
        intro wz hg_wz hS_wz
        replace br := Blk.gr br hg_wz
        replace b4 := Blk.gr b4 hg_wz
        replace b9 := Blk.gr b9 hg_wz
        replace bc := Blk.gr bc hg_wz
        replace bd := Blk.gr bd hg_wz
        obtain ⟨z0, z1, z2, z3, z4, z5, z6, z7, z8, z9, z10, z11, z12, zf⟩ := blk13 br
        have lr := br.lt
        refine each_cons ?_ each_nil
        refine wpOp_go (by rfl) (Eq.refl _) (by go_simp; done) ?_
        intro K hK
        go_simp
        try simp only [Act.put]
        refine hK _ _ (And.intro (Below.set13 hS_wz.1 HGR.out (.slice (some ⟨g4, 0, none⟩) 4 4) (.string ⟨#[99]⟩) (.slice none 0 0) (.slice (some ⟨g9, 0, none⟩) 2 2) (.int .i64 1000) (.slice (some ⟨gc, 0, none⟩) 1 1) (.int .i64 0) (.int .i64 20) (.int .i64 0) (.int .i64 10) (.int .i64 0) (.int .i64 60) (.slice (some ⟨gd, 0, none⟩) 2 2)) (Blk.far13 hS_wz.2 (Blk.ne_ hS_wz.2 br (by decide)) (.slice (some ⟨g4, 0, none⟩) 4 4) (.string ⟨#[99]⟩) (.slice none 0 0) (.slice (some ⟨g9, 0, none⟩) 2 2) (.int .i64 1000) (.slice (some ⟨gc, 0, none⟩) 1 1) (.int .i64 0) (.int .i64 20) (.int .i64 0) (.int .i64 10) (.int .i64 0) (.int .i64 60) (.slice (some ⟨gd, 0, none⟩) 2 2))) ?_
        clear hK K z0 z1 z2 z3 z4 z5 z6 z7 z8 z9 z10 z11 z12 zf lr
        refine wpW_end (by kernel_rfl) ?_
        intro we hg hS
        unfold NQ
        dsimp only
        exact H.out _ _ _ _ _ _ _ _ _ _ _ _ _ _ _ _ _ _ _ _ we (HOK.out (Blk.gr (b4.far13 (Blk.ne_ b4 br (by decide)) (.slice (some ⟨g4, 0, none⟩) 4 4) (.string ⟨#[99]⟩) (.slice none 0 0) (.slice (some ⟨g9, 0, none⟩) 2 2) (.int .i64 1000) (.slice (some ⟨gc, 0, none⟩) 1 1) (.int .i64 0) (.int .i64 20) (.int .i64 0) (.int .i64 10) (.int .i64 0) (.int .i64 60) (.slice (some ⟨gd, 0, none⟩) 2 2)) hg) (Blk.gr (b9.far13 (Blk.ne_ b9 br (by decide)) (.slice (some ⟨g4, 0, none⟩) 4 4) (.string ⟨#[99]⟩) (.slice none 0 0) (.slice (some ⟨g9, 0, none⟩) 2 2) (.int .i64 1000) (.slice (some ⟨gc, 0, none⟩) 1 1) (.int .i64 0) (.int .i64 20) (.int .i64 0) (.int .i64 10) (.int .i64 0) (.int .i64 60) (.slice (some ⟨gd, 0, none⟩) 2 2)) hg) (Blk.gr (bc.far13 (Blk.ne_ bc br (by decide)) (.slice (some ⟨g4, 0, none⟩) 4 4) (.string ⟨#[99]⟩) (.slice none 0 0) (.slice (some ⟨g9, 0, none⟩) 2 2) (.int .i64 1000) (.slice (some ⟨gc, 0, none⟩) 1 1) (.int .i64 0) (.int .i64 20) (.int .i64 0) (.int .i64 10) (.int .i64 0) (.int .i64 60) (.slice (some ⟨gd, 0, none⟩) 2 2)) hg) (Blk.gr (bd.far13 (Blk.ne_ bd br (by decide)) (.slice (some ⟨g4, 0, none⟩) 4 4) (.string ⟨#[99]⟩) (.slice none 0 0) (.slice (some ⟨g9, 0, none⟩) 2 2) (.int .i64 1000) (.slice (some ⟨gc, 0, none⟩) 1 1) (.int .i64 0) (.int .i64 20) (.int .i64 0) (.int .i64 10) (.int .i64 0) (.int .i64 60) (.slice (some ⟨gd, 0, none⟩) 2 2)) hg)) (Blk.gr (br.set13 (.slice (some ⟨g4, 0, none⟩) 4 4) (.string ⟨#[99]⟩) (.slice none 0 0) (.slice (some ⟨g9, 0, none⟩) 2 2) (.int .i64 1000) (.slice (some ⟨gc, 0, none⟩) 1 1) (.int .i64 0) (.int .i64 20) (.int .i64 0) (.int .i64 10) (.int .i64 0) (.int .i64 60) (.slice (some ⟨gd, 0, none⟩) 2 2)) hg) hS.1
      · refine wpOp_go (by rfl) (Eq.refl _) (by go_simp; done) ?_
        intro K hK
        go_simp
        try simp only [Act.put]
        have bd := Blk.new w3 75 #[.int .i64 100, .int .i64 5, .int .i64 900, .int .i64 12]
        have hal : Gr w3 (w3.alloc (.cells #[.int .i64 100, .int .i64 5, .int .i64 900, .int .i64 12] 75)) := (Below.refl _ _).alloc (Nat.le_refl _) _
        replace z := And.intro (Below.trans z.1 (Below.mono hal (Below.size z.1))) (Blk.gr z.2 hal)
        replace br := Blk.gr br hal
        try replace b4 := Blk.gr b4 hal
        try replace b9 := Blk.gr b9 hal
        try replace bc := Blk.gr bc hal
        clear hal
        generalize w3.heap.size = gd at *
        refine hK _ _ z ?_
        clear hK K
        refine wpW_branch [4] (by kernel_rfl) (by simp) ?_
        intro w4 hg4 hS4
        try clear z
        have z := hS4
        replace br := Blk.gr br hg4
        replace b9 := Blk.gr b9 hg4
        replace bc := Blk.gr bc hg4
        replace bd := Blk.gr bd hg4
        refine each_cons ?_ (each_nil)
        refine wpOp_go (by rfl) (Eq.refl _) (by go_simp; done) ?_
        intro K hK
        go_simp
        try simp only [Act.put]
        have b4 := Blk.new w4 57 #[.string ⟨#[97, 110, 110]⟩, .int .i64 1, .string ⟨#[98, 111, 98]⟩, .int .i64 2, .string ⟨#[99, 105, 100]⟩, .int .i64 2, .string ⟨#[100, 111, 114, 97]⟩, .int .i64 3]
        have hal : Gr w4 (w4.alloc (.cells #[.string ⟨#[97, 110, 110]⟩, .int .i64 1, .string ⟨#[98, 111, 98]⟩, .int .i64 2, .string ⟨#[99, 105, 100]⟩, .int .i64 2, .string ⟨#[100, 111, 114, 97]⟩, .int .i64 3] 57)) := (Below.refl _ _).alloc (Nat.le_refl _) _
        replace z := And.intro (Below.trans z.1 (Below.mono hal (Below.size z.1))) (Blk.gr z.2 hal)
        replace br := Blk.gr br hal
        try replace b9 := Blk.gr b9 hal
        try replace bc := Blk.gr bc hal
        try replace bd := Blk.gr bd hal
        clear hal
        generalize w4.heap.size = g4 at *
        refine hK _ _ z ?_
        clear hK K
        refine wpW_det (t' := ?ct18R17) 18 (by rfl) (by kernel_rfl) (NQ_free _) (by kernel_rfl) ?cw18R17 ?ch18R17 ?ca18R17 (Eq.refl _) ?cH18R17
        case cw18R17 => (go_simp; done)
        case ch18R17 =>
          intro ds w' hS K hK
          go_simp
          try go_bits
          exact hK _ hS (Gr.refl _)
        case ca18R17 => (first | (simp [Act.put]; done) | (simp [Act.put, *]; done))
        try dsimp only
        refine wpW_branch [19] (by kernel_rfl) (by simp) ?_
        intro wz hg_wz hS_wz
        replace br := Blk.gr br hg_wz
        replace b4 := Blk.gr b4 hg_wz
        replace b9 := Blk.gr b9 hg_wz
        replace bc := Blk.gr bc hg_wz
        replace bd := Blk.gr bd hg_wz
        obtain ⟨z0, z1, z2, z3, z4, z5, z6, z7, z8, z9, z10, z11, z12, zf⟩ := blk13 br
        have lr := br.lt
        refine each_cons ?_ each_nil
        refine wpOp_go (by rfl) (Eq.refl _) (by go_simp; done) ?_
        intro K hK
        go_simp
        try simp only [Act.put]
        refine hK _ _ (And.intro (Below.set13 hS_wz.1 HGR.out (.slice (some ⟨g4, 0, none⟩) 4 4) (.string ⟨#[99]⟩) (.slice none 0 0) (.slice (some ⟨g9, 0, none⟩) 2 2) (.int .i64 1000) (.slice (some ⟨gc, 0, none⟩) 1 1) (.int .i64 0) (.int .i64 20) (.int .i64 0) (.int .i64 10) (.int .i64 0) (.int .i64 60) (.slice (some ⟨gd, 0, none⟩) 2 2)) (Blk.far13 hS_wz.2 (Blk.ne_ hS_wz.2 br (by decide)) (.slice (some ⟨g4, 0, none⟩) 4 4) (.string ⟨#[99]⟩) (.slice none 0 0) (.slice (some ⟨g9, 0, none⟩) 2 2) (.int .i64 1000) (.slice (some ⟨gc, 0, none⟩) 1 1) (.int .i64 0) (.int .i64 20) (.int .i64 0) (.int .i64 10) (.int .i64 0) (.int .i64 60) (.slice (some ⟨gd, 0, none⟩) 2 2))) ?_
        clear hK K z0 z1 z2 z3 z4 z5 z6 z7 z8 z9 z10 z11 z12 zf lr
        refine wpW_end (by kernel_rfl) ?_
        intro we hg hS
        unfold NQ
        dsimp only
        exact H.out _ _ _ _ _ _ _ _ _ _ _ _ _ _ _ _ _ _ _ _ we (HOK.out (Blk.gr (b4.far13 (Blk.ne_ b4 br (by decide)) (.slice (some ⟨g4, 0, none⟩) 4 4) (.string ⟨#[99]⟩) (.slice none 0 0) (.slice (some ⟨g9, 0, none⟩) 2 2) (.int .i64 1000) (.slice (some ⟨gc, 0, none⟩) 1 1) (.int .i64 0) (.int .i64 20) (.int .i64 0) (.int .i64 10) (.int .i64 0) (.int .i64 60) (.slice (some ⟨gd, 0, none⟩) 2 2)) hg) (Blk.gr (b9.far13 (Blk.ne_ b9 br (by decide)) (.slice (some ⟨g4, 0, none⟩) 4 4) (.string ⟨#[99]⟩) (.slice none 0 0) (.slice (some ⟨g9, 0, none⟩) 2 2) (.int .i64 1000) (.slice (some ⟨gc, 0, none⟩) 1 1) (.int .i64 0) (.int .i64 20) (.int .i64 0) (.int .i64 10) (.int .i64 0) (.int .i64 60) (.slice (some ⟨gd, 0, none⟩) 2 2)) hg) (Blk.gr (bc.far13 (Blk.ne_ bc br (by decide)) (.slice (some ⟨g4, 0, none⟩) 4 4) (.string ⟨#[99]⟩) (.slice none 0 0) (.slice (some ⟨g9, 0, none⟩) 2 2) (.int .i64 1000) (.slice (some ⟨gc, 0, none⟩) 1 1) (.int .i64 0) (.int .i64 20) (.int .i64 0) (.int .i64 10) (.int .i64 0) (.int .i64 60) (.slice (some ⟨gd, 0, none⟩) 2 2)) hg) (Blk.gr (bd.far13 (Blk.ne_ bd br (by decide)) (.slice (some ⟨g4, 0, none⟩) 4 4) (.string ⟨#[99]⟩) (.slice none 0 0) (.slice (some ⟨g9, 0, none⟩) 2 2) (.int .i64 1000) (.slice (some ⟨gc, 0, none⟩) 1 1) (.int .i64 0) (.int .i64 20) (.int .i64 0) (.int .i64 10) (.int .i64 0) (.int .i64 60) (.slice (some ⟨gd, 0, none⟩) 2 2)) hg)) (Blk.gr (br.set13 (.slice (some ⟨g4, 0, none⟩) 4 4) (.string ⟨#[99]⟩) (.slice none 0 0) (.slice (some ⟨g9, 0, none⟩) 2 2) (.int .i64 1000) (.slice (some ⟨gc, 0, none⟩) 1 1) (.int .i64 0) (.int .i64 20) (.int .i64 0) (.int .i64 10) (.int .i64 0) (.int .i64 60) (.slice (some ⟨gd, 0, none⟩) 2 2)) hg) hS.1
    · refine wpOp_go (by rfl) (Eq.refl _) (by go_simp; done) ?_
      intro K hK
      go_simp
      try simp only [Act.put]
      have bd := Blk.new w2 75 #[.int .i64 100, .int .i64 5, .int .i64 900, .int .i64 12]
      have hal : Gr w2 (w2.alloc (.cells #[.int .i64 100, .int .i64 5, .int .i64 900, .int .i64 12] 75)) := (Below.refl _ _).alloc (Nat.le_refl _) _
      replace z := And.intro (Below.trans z.1 (Below.mono hal (Below.size z.1))) (Blk.gr z.2 hal)
      replace br := Blk.gr br hal
      try replace b4 := Blk.gr b4 hal
      try replace b9 := Blk.gr b9 hal
      try replace bc := Blk.gr bc hal
      clear hal
      generalize w2.heap.size = gd at *
      refine hK _ _ z ?_
      clear hK K
      refine wpW_branch [4, 12] (by kernel_rfl) (by simp) ?_
      intro w3 hg3 hS3
      try clear z
      have z := hS3
      replace br := Blk.gr br hg3
      replace b9 := Blk.gr b9 hg3
      replace bd := Blk.gr bd hg3
      refine each_cons ?_ (each_cons ?_ (each_nil))
      · refine wpOp_go (by rfl) (Eq.refl _) (by go_simp; done) ?_
        intro K hK
        go_simp
        try simp only [Act.put]
        have b4 := Blk.new w3 57 #[.string ⟨#[97, 110, 110]⟩, .int .i64 1, .string ⟨#[98, 111, 98]⟩, .int .i64 2, .string ⟨#[99, 105, 100]⟩, .int .i64 2, .string ⟨#[100, 111, 114, 97]⟩, .int .i64 3]
        have hal : Gr w3 (w3.alloc (.cells #[.string ⟨#[97, 110, 110]⟩, .int .i64 1, .string ⟨#[98, 111, 98]⟩, .int .i64 2, .string ⟨#[99, 105, 100]⟩, .int .i64 2, .string ⟨#[100, 111, 114, 97]⟩, .int .i64 3] 57)) := (Below.refl _ _).alloc (Nat.le_refl _) _
        replace z := And.intro (Below.trans z.1 (Below.mono hal (Below.size z.1))) (Blk.gr z.2 hal)
        replace br := Blk.gr br hal
        try replace b9 := Blk.gr b9 hal
        try replace bc := Blk.gr bc hal
        try replace bd := Blk.gr bd hal
        clear hal
        generalize w3.heap.size = g4 at *
        refine hK _ _ z ?_
        clear hK K
        refine wpW_branch [12] (by kernel_rfl) (by simp) ?_
        intro w4 hg4 hS4
        try clear z
        have z := hS4
        replace br := Blk.gr br hg4
        replace b4 := Blk.gr b4 hg4
        replace b9 := Blk.gr b9 hg4
        replace bd := Blk.gr bd hg4
        refine each_cons ?_ (each_nil)
        refine wpOp_go (by rfl) (Eq.refl _) (by go_simp; done) ?_
        intro K hK
        go_simp
        try simp only [Act.put]
        have bc := Blk.new w4 60 #[.string ⟨#[103, 97, 105, 110]⟩, .int .i64 100, .int .i64 50, .slice none 0 0]
        have hal : Gr w4 (w4.alloc (.cells #[.string ⟨#[103, 97, 105, 110]⟩, .int .i64 100, .int .i64 50, .slice none 0 0] 60)) := (Below.refl _ _).alloc (Nat.le_refl _) _
        replace z := And.intro (Below.trans z.1 (Below.mono hal (Below.size z.1))) (Blk.gr z.2 hal)
        replace br := Blk.gr br hal
        try replace b4 := Blk.gr b4 hal
        try replace b9 := Blk.gr b9 hal
        try replace bd := Blk.gr bd hal
        clear hal
        generalize w4.heap.size = gc at *
        refine hK _ _ z ?_
        clear hK K
        refine wpW_det (t' := ?ct18R18) 18 (by rfl) (by kernel_rfl) (NQ_free _) (by kernel_rfl) ?cw18R18 ?ch18R18 ?ca18R18 (Eq.refl _) ?cH18R18
        case cw18R18 => (go_simp; done)
        case ch18R18 =>
          intro ds w' hS K hK
          go_simp
          try go_bits
          exact hK _ hS (Gr.refl _)
        case ca18R18 => (first | (simp [Act.put]; done) | (simp [Act.put, *]; done))
        try dsimp only
        refine wpW_branch [19] (by kernel_rfl) (by simp) ?_
        intro wz hg_wz hS_wz
        replace br := Blk.gr br hg_wz
        replace b4 := Blk.gr b4 hg_wz
        replace b9 := Blk.gr b9 hg_wz
        replace bc := Blk.gr bc hg_wz
        replace bd := Blk.gr bd hg_wz
        obtain ⟨z0, z1, z2, z3, z4, z5, z6, z7, z8, z9, z10, z11, z12, zf⟩ := blk13 br
        have lr := br.lt
        refine each_cons ?_ each_nil
        refine wpOp_go (by rfl) (Eq.refl _) (by go_simp; done) ?_
        intro K hK
        go_simp
        try simp only [Act.put]
        refine hK _ _ (And.intro (Below.set13 hS_wz.1 HGR.out (.slice (some ⟨g4, 0, none⟩) 4 4) (.string ⟨#[99]⟩) (.slice none 0 0) (.slice (some ⟨g9, 0, none⟩) 2 2) (.int .i64 1000) (.slice (some ⟨gc, 0, none⟩) 1 1) (.int .i64 0) (.int .i64 20) (.int .i64 0) (.int .i64 10) (.int .i64 0) (.int .i64 60) (.slice (some ⟨gd, 0, none⟩) 2 2)) (Blk.far13 hS_wz.2 (Blk.ne_ hS_wz.2 br (by decide)) (.slice (some ⟨g4, 0, none⟩) 4 4) (.string ⟨#[99]⟩) (.slice none 0 0) (.slice (some ⟨g9, 0, none⟩) 2 2) (.int .i64 1000) (.slice (some ⟨gc, 0, none⟩) 1 1) (.int .i64 0) (.int .i64 20) (.int .i64 0) (.int .i64 10) (.int .i64 0) (.int .i64 60) (.slice (some ⟨gd, 0, none⟩) 2 2))) ?_
        clear hK K z0 z1 z2 z3 z4 z5 z6 z7 z8 z9 z10 z11 z12 zf lr
        refine wpW_end (by kernel_rfl) ?_
        intro we hg hS
        unfold NQ
        dsimp only
        exact H.out _ _ _ _ _ _ _ _ _ _ _ _ _ _ _ _ _ _ _ _ we (HOK.out (Blk.gr (b4.far13 (Blk.ne_ b4 br (by decide)) (.slice (some ⟨g4, 0, none⟩) 4 4) (.string ⟨#[99]⟩) (.slice none 0 0) (.slice (some ⟨g9, 0, none⟩) 2 2) (.int .i64 1000) (.slice (some ⟨gc, 0, none⟩) 1 1) (.int .i64 0) (.int .i64 20) (.int .i64 0) (.int .i64 10) (.int .i64 0) (.int .i64 60) (.slice (some ⟨gd, 0, none⟩) 2 2)) hg) (Blk.gr (b9.far13 (Blk.ne_ b9 br (by decide)) (.slice (some ⟨g4, 0, none⟩) 4 4) (.string ⟨#[99]⟩) (.slice none 0 0) (.slice (some ⟨g9, 0, none⟩) 2 2) (.int .i64 1000) (.slice (some ⟨gc, 0, none⟩) 1 1) (.int .i64 0) (.int .i64 20) (.int .i64 0) (.int .i64 10) (.int .i64 0) (.int .i64 60) (.slice (some ⟨gd, 0, none⟩) 2 2)) hg) (Blk.gr (bc.far13 (Blk.ne_ bc br (by decide)) (.slice (some ⟨g4, 0, none⟩) 4 4) (.string ⟨#[99]⟩) (.slice none 0 0) (.slice (some ⟨g9, 0, none⟩) 2 2) (.int .i64 1000) (.slice (some ⟨gc, 0, none⟩) 1 1) (.int .i64 0) (.int .i64 20) (.int .i64 0) (.int .i64 10) (.int .i64 0) (.int .i64 60) (.slice (some ⟨gd, 0, none⟩) 2 2)) hg) (Blk.gr (bd.far13 (Blk.ne_ bd br (by decide)) (.slice (some ⟨g4, 0, none⟩) 4 4) (.string ⟨#[99]⟩) (.slice none 0 0) (.slice (some ⟨g9, 0, none⟩) 2 2) (.int .i64 1000) (.slice (some ⟨gc, 0, none⟩) 1 1) (.int .i64 0) (.int .i64 20) (.int .i64 0) (.int .i64 10) (.int .i64 0) (.int .i64 60) (.slice (some ⟨gd, 0, none⟩) 2 2)) hg)) (Blk.gr (br.set13 (.slice (some ⟨g4, 0, none⟩) 4 4) (.string ⟨#[99]⟩) (.slice none 0 0) (.slice (some ⟨g9, 0, none⟩) 2 2) (.int .i64 1000) (.slice (some ⟨gc, 0, none⟩) 1 1) (.int .i64 0) (.int .i64 20) (.int .i64 0) (.int .i64 10) (.int .i64 0) (.int .i64 60) (.slice (some ⟨gd, 0, none⟩) 2 2)) hg) hS.1
      · refine wpOp_go (by rfl) (Eq.refl _) (by go_simp; done) ?_
        intro K hK
        go_simp
        try simp only [Act.put]
        have bc := Blk.new w3 60 #[.string ⟨#[103, 97, 105, 110]⟩, .int .i64 100, .int .i64 50, .slice none 0 0]
        have hal : Gr w3 (w3.alloc (.cells #[.string ⟨#[103, 97, 105, 110]⟩, .int .i64 100, .int .i64 50, .slice none 0 0] 60)) := (Below.refl _ _).alloc (Nat.le_refl _) _
        replace z := And.intro (Below.trans z.1 (Below.mono hal (Below.size z.1))) (Blk.gr z.2 hal)
        replace br := Blk.gr br hal
        try replace b4 := Blk.gr b4 hal
        try replace b9 := Blk.gr b9 hal
        try replace bd := Blk.gr bd hal
        clear hal
        generalize w3.heap.size = gc at *
        refine hK _ _ z ?_
        clear hK K
        refine wpW_branch [4] (by kernel_rfl) (by simp) ?_
        intro w4 hg4 hS4
        try clear z
        have z := hS4
        replace br := Blk.gr br hg4
        replace b9 := Blk.gr b9 hg4
        replace bc := Blk.gr bc hg4
        replace bd := Blk.gr bd hg4
        refine each_cons ?_ (each_nil)
        refine wpOp_go (by rfl) (Eq.refl _) (by go_simp; done) ?_
        intro K hK
        go_simp
        try simp only [Act.put]
        have b4 := Blk.new w4 57 #[.string ⟨#[97, 110, 110]⟩, .int .i64 1, .string ⟨#[98, 111, 98]⟩, .int .i64 2, .string ⟨#[99, 105, 100]⟩, .int .i64 2, .string ⟨#[100, 111, 114, 97]⟩, .int .i64 3]
        have hal : Gr w4 (w4.alloc (.cells #[.string ⟨#[97, 110, 110]⟩, .int .i64 1, .string ⟨#[98, 111, 98]⟩, .int .i64 2, .string ⟨#[99, 105, 100]⟩, .int .i64 2, .string ⟨#[100, 111, 114, 97]⟩, .int .i64 3] 57)) := (Below.refl _ _).alloc (Nat.le_refl _) _
        replace z := And.intro (Below.trans z.1 (Below.mono hal (Below.size z.1))) (Blk.gr z.2 hal)
        replace br := Blk.gr br hal
        try replace b9 := Blk.gr b9 hal
        try replace bc := Blk.gr bc hal
        try replace bd := Blk.gr bd hal
        clear hal
        generalize w4.heap.size = g4 at *
        refine hK _ _ z ?_
        clear hK K
        refine wpW_det (t' := ?ct18R19) 18 (by rfl) (by kernel_rfl) (NQ_free _) (by kernel_rfl) ?cw18R19 ?ch18R19 ?ca18R19 (Eq.refl _) ?cH18R19
        case cw18R19 => (go_simp; done)
        case ch18R19 =>
          intro ds w' hS K hK
          go_simp
          try go_bits
          exact hK _ hS (Gr.refl _)
        case ca18R19 => (first | (simp [Act.put]; done) | (simp [Act.put, *]; done))
        try dsimp only
        refine wpW_branch [19] (by kernel_rfl) (by simp) ?_
        intro wz hg_wz hS_wz
        replace br := Blk.gr br hg_wz
        replace b4 := Blk.gr b4 hg_wz
        replace b9 := Blk.gr b9 hg_wz
        replace bc := Blk.gr bc hg_wz
        replace bd := Blk.gr bd hg_wz
        obtain ⟨z0, z1, z2, z3, z4, z5, z6, z7, z8, z9, z10, z11, z12, zf⟩ := blk13 br
        have lr := br.lt
        refine each_cons ?_ each_nil
        refine wpOp_go (by rfl) (Eq.refl _) (by go_simp; done) ?_
        intro K hK
        go_simp
        try simp only [Act.put]
        refine hK _ _ (And.intro (Below.set13 hS_wz.1 HGR.out (.slice (some ⟨g4, 0, none⟩) 4 4) (.string ⟨#[99]⟩) (.slice none 0 0) (.slice (some ⟨g9, 0, none⟩) 2 2) (.int .i64 1000) (.slice (some ⟨gc, 0, none⟩) 1 1) (.int .i64 0) (.int .i64 20) (.int .i64 0) (.int .i64 10) (.int .i64 0) (.int .i64 60) (.slice (some ⟨gd, 0, none⟩) 2 2)) (Blk.far13 hS_wz.2 (Blk.ne_ hS_wz.2 br (by decide)) (.slice (some ⟨g4, 0, none⟩) 4 4) (.string ⟨#[99]⟩) (.slice none 0 0) (.slice (some ⟨g9, 0, none⟩) 2 2) (.int .i64 1000) (.slice (some ⟨gc, 0, none⟩) 1 1) (.int .i64 0) (.int .i64 20) (.int .i64 0) (.int .i64 10) (.int .i64 0) (.int .i64 60) (.slice (some ⟨gd, 0, none⟩) 2 2))) ?_
        clear hK K z0 z1 z2 z3 z4 z5 z6 z7 z8 z9 z10 z11 z12 zf lr
        refine wpW_end (by kernel_rfl) ?_
        intro we hg hS
        unfold NQ
        dsimp only
        exact H.out _ _ _ _ _ _ _ _ _ _ _ _ _ _ _ _ _ _ _ _ we (HOK.out (Blk.gr (b4.far13 (Blk.ne_ b4 br (by decide)) (.slice (some ⟨g4, 0, none⟩) 4 4) (.string ⟨#[99]⟩) (.slice none 0 0) (.slice (some ⟨g9, 0, none⟩) 2 2) (.int .i64 1000) (.slice (some ⟨gc, 0, none⟩) 1 1) (.int .i64 0) (.int .i64 20) (.int .i64 0) (.int .i64 10) (.int .i64 0) (.int .i64 60) (.slice (some ⟨gd, 0, none⟩) 2 2)) hg) (Blk.gr (b9.far13 (Blk.ne_ b9 br (by decide)) (.slice (some ⟨g4, 0, none⟩) 4 4) (.string ⟨#[99]⟩) (.slice none 0 0) (.slice (some ⟨g9, 0, none⟩) 2 2) (.int .i64 1000) (.slice (some ⟨gc, 0, none⟩) 1 1) (.int .i64 0) (.int .i64 20) (.int .i64 0) (.int .i64 10) (.int .i64 0) (.int .i64 60) (.slice (some ⟨gd, 0, none⟩) 2 2)) hg) (Blk.gr (bc.far13 (Blk.ne_ bc br (by decide)) (.slice (some ⟨g4, 0, none⟩) 4 4) (.string ⟨#[99]⟩) (.slice none 0 0) (.slice (some ⟨g9, 0, none⟩) 2 2) (.int .i64 1000) (.slice (some ⟨gc, 0, none⟩) 1 1) (.int .i64 0) (.int .i64 20) (.int .i64 0) (.int .i64 10) (.int .i64 0) (.int .i64 60) (.slice (some ⟨gd, 0, none⟩) 2 2)) hg) (Blk.gr (bd.far13 (Blk.ne_ bd br (by decide)) (.slice (some ⟨g4, 0, none⟩) 4 4) (.string ⟨#[99]⟩) (.slice none 0 0) (.slice (some ⟨g9, 0, none⟩) 2 2) (.int .i64 1000) (.slice (some ⟨gc, 0, none⟩) 1 1) (.int .i64 0) (.int .i64 20) (.int .i64 0) (.int .i64 10) (.int .i64 0) (.int .i64 60) (.slice (some ⟨gd, 0, none⟩) 2 2)) hg)) (Blk.gr (br.set13 (.slice (some ⟨g4, 0, none⟩) 4 4) (.string ⟨#[99]⟩) (.slice none 0 0) (.slice (some ⟨g9, 0, none⟩) 2 2) (.int .i64 1000) (.slice (some ⟨gc, 0, none⟩) 1 1) (.int .i64 0) (.int .i64 20) (.int .i64 0) (.int .i64 10) (.int .i64 0) (.int .i64 60) (.slice (some ⟨gd, 0, none⟩) 2 2)) hg) hS.1
  · refine wpOp_go (by rfl) (Eq.refl _) (by go_simp; done) ?_
    intro K hK
    go_simp
    try simp only [Act.put]
    have bc := Blk.new w1 60 #[.string ⟨#[103, 97, 105, 110]⟩, .int .i64 100, .int .i64 50, .slice none 0 0]
    have hal : Gr w1 (w1.alloc (.cells #[.string ⟨#[103, 97, 105, 110]⟩, .int .i64 100, .int .i64 50, .slice none 0 0] 60)) := (Below.refl _ _).alloc (Nat.le_refl _) _
    replace z := And.intro (Below.trans z.1 (Below.mono hal (Below.size z.1))) (Blk.gr z.2 hal)
    replace br := Blk.gr br hal
    try replace b4 := Blk.gr b4 hal
    try replace b9 := Blk.gr b9 hal
    try replace bd := Blk.gr bd hal
    clear hal
    generalize w1.heap.size = gc at *
    refine hK _ _ z ?_
    clear hK K
    refine wpW_branch [4, 9, 17] (by kernel_rfl) (by simp) ?_
    intro w2 hg2 hS2
    try clear z
    have z := hS2
    replace br := Blk.gr br hg2
    replace bc := Blk.gr bc hg2
    refine each_cons ?_ (each_cons ?_ (each_cons ?_ (each_nil)))
    · refine wpOp_go (by rfl) (Eq.refl _) (by go_simp; done) ?_
      intro K hK
      go_simp
      try simp only [Act.put]
      have b4 := Blk.new w2 57 #[.string ⟨#[97, 110, 110]⟩, .int .i64 1, .string ⟨#[98, 111, 98]⟩, .int .i64 2, .string ⟨#[99, 105, 100]⟩, .int .i64 2, .string ⟨#[100, 111, 114, 97]⟩, .int .i64 3]
      have hal : Gr w2 (w2.alloc (.cells #[.string ⟨#[97, 110, 110]⟩, .int .i64 1, .string ⟨#[98, 111, 98]⟩, .int .i64 2, .string ⟨#[99, 105, 100]⟩, .int .i64 2, .string ⟨#[100, 111, 114, 97]⟩, .int .i64 3] 57)) := (Below.refl _ _).alloc (Nat.le_refl _) _
      replace z := And.intro (Below.trans z.1 (Below.mono hal (Below.size z.1))) (Blk.gr z.2 hal)
      replace br := Blk.gr br hal
      try replace b9 := Blk.gr b9 hal
      try replace bc := Blk.gr bc hal
      try replace bd := Blk.gr bd hal
      clear hal
      generalize w2.heap.size = g4 at *
      refine hK _ _ z ?_
      clear hK K
      refine wpW_branch [9, 17] (by kernel_rfl) (by simp) ?_
      intro w3 hg3 hS3
      try clear z
      have z := hS3
      replace br := Blk.gr br hg3
      replace b4 := Blk.gr b4 hg3
      replace bc := Blk.gr bc hg3
      refine each_cons ?_ (each_cons ?_ (each_nil))
      · refine wpOp_go (by rfl) (Eq.refl _) (by go_simp; done) ?_
        intro K hK
        go_simp
        try simp only [Act.put]
        have b9 := Blk.new w3 110 #[.int .i64 (weldLow 0), .int .i64 (weldLow 1), .int .i64 (weldLow 2), .int .i64 (weldLow 3), .int .i64 (weldLow 4), .int .i64 (weldLow 5), .int .i64 (weldLow 6), .int .i64 (weldLow 7), .int .i64 (weldLow 8), .int .i64 (weldLow 9), .int .i64 (weldLow 10), .int .i64 (weldLow 11), .int .i64 0, .int .i64 (weldTop 0), .int .i64 (weldTop 1), .int .i64 (weldTop 2), .int .i64 (weldTop 3), .int .i64 (weldTop 4), .int .i64 (weldTop 5), .int .i64 (weldTop 6), .int .i64 (weldTop 7), .int .i64 (weldTop 8), .int .i64 (weldTop 9), .int .i64 (weldTop 10), .int .i64 (weldTop 11), .int .i64 1]
        have hal : Gr w3 (w3.alloc (.cells #[.int .i64 (weldLow 0), .int .i64 (weldLow 1), .int .i64 (weldLow 2), .int .i64 (weldLow 3), .int .i64 (weldLow 4), .int .i64 (weldLow 5), .int .i64 (weldLow 6), .int .i64 (weldLow 7), .int .i64 (weldLow 8), .int .i64 (weldLow 9), .int .i64 (weldLow 10), .int .i64 (weldLow 11), .int .i64 0, .int .i64 (weldTop 0), .int .i64 (weldTop 1), .int .i64 (weldTop 2), .int .i64 (weldTop 3), .int .i64 (weldTop 4), .int .i64 (weldTop 5), .int .i64 (weldTop 6), .int .i64 (weldTop 7), .int .i64 (weldTop 8), .int .i64 (weldTop 9), .int .i64 (weldTop 10), .int .i64 (weldTop 11), .int .i64 1] 110)) := (Below.refl _ _).alloc (Nat.le_refl _) _
        replace z := And.intro (Below.trans z.1 (Below.mono hal (Below.size z.1))) (Blk.gr z.2 hal)
        replace br := Blk.gr br hal
        try replace b4 := Blk.gr b4 hal
        try replace bc := Blk.gr bc hal
        try replace bd := Blk.gr bd hal
        clear hal
        generalize w3.heap.size = g9 at *
        refine hK _ _ z ?_
        clear hK K
        refine wpW_det (t' := ?ct10R20) 10 (by rfl) (by kernel_rfl) (NQ_free _) (by kernel_rfl) ?cw10R20 ?ch10R20 ?ca10R20 (Eq.refl _) ?cH10R20
        case cw10R20 => (go_simp; done)
        case ch10R20 =>
          intro ds w' hS K hK
          go_simp
          try go_bits
          exact hK _ hS (Gr.refl _)
        case ca10R20 => (first | (simp [Act.put]; done) | (simp [Act.put, *]; done))
        try dsimp only
        refine wpW_branch [17] (by kernel_rfl) (by simp) ?_
        intro w4 hg4 hS4
        try clear z
        have z := hS4
        replace br := Blk.gr br hg4
        replace b4 := Blk.gr b4 hg4
        replace b9 := Blk.gr b9 hg4
        replace bc := Blk.gr bc hg4
        refine each_cons ?_ (each_nil)
        refine wpOp_go (by rfl) (Eq.refl _) (by go_simp; done) ?_
        intro K hK
        go_simp
        try simp only [Act.put]
        have bd := Blk.new w4 75 #[.int .i64 100, .int .i64 5, .int .i64 900, .int .i64 12]
        have hal : Gr w4 (w4.alloc (.cells #[.int .i64 100, .int .i64 5, .int .i64 900, .int .i64 12] 75)) := (Below.refl _ _).alloc (Nat.le_refl _) _
        replace z := And.intro (Below.trans z.1 (Below.mono hal (Below.size z.1))) (Blk.gr z.2 hal)
        replace br := Blk.gr br hal
        try replace b4 := Blk.gr b4 hal
        try replace b9 := Blk.gr b9 hal
        try replace bc := Blk.gr bc hal
        clear hal
        generalize w4.heap.size = gd at *
        refine hK _ _ z ?_
        clear hK K
        refine wpW_det (t' := ?ct18R21) 18 (by rfl) (by kernel_rfl) (NQ_free _) (by kernel_rfl) ?cw18R21 ?ch18R21 ?ca18R21 (Eq.refl _) ?cH18R21
        case cw18R21 => (go_simp; done)
        case ch18R21 =>
          intro ds w' hS K hK
          go_simp
          try go_bits
          exact hK _ hS (Gr.refl _)
        case ca18R21 => (first | (simp [Act.put]; done) | (simp [Act.put, *]; done))
        try dsimp only
        refine wpW_branch [19] (by kernel_rfl) (by simp) ?_
        intro wz hg_wz hS_wz
        replace br := Blk.gr br hg_wz
        replace b4 := Blk.gr b4 hg_wz
        replace b9 := Blk.gr b9 hg_wz
        replace bc := Blk.gr bc hg_wz
        replace bd := Blk.gr bd hg_wz
        obtain ⟨z0, z1, z2, z3, z4, z5, z6, z7, z8, z9, z10, z11, z12, zf⟩ := blk13 br
        have lr := br.lt
        refine each_cons ?_ each_nil
        refine wpOp_go (by rfl) (Eq.refl _) (by go_simp; done) ?_
        intro K hK
        go_simp
        try simp only [Act.put]
        refine hK _ _ (And.intro (Below.set13 hS_wz.1 HGR.out (.slice (some ⟨g4, 0, none⟩) 4 4) (.string ⟨#[99]⟩) (.slice none 0 0) (.slice (some ⟨g9, 0, none⟩) 2 2) (.int .i64 1000) (.slice (some ⟨gc, 0, none⟩) 1 1) (.int .i64 0) (.int .i64 20) (.int .i64 0) (.int .i64 10) (.int .i64 0) (.int .i64 60) (.slice (some ⟨gd, 0, none⟩) 2 2)) (Blk.far13 hS_wz.2 (Blk.ne_ hS_wz.2 br (by decide)) (.slice (some ⟨g4, 0, none⟩) 4 4) (.string ⟨#[99]⟩) (.slice none 0 0) (.slice (some ⟨g9, 0, none⟩) 2 2) (.int .i64 1000) (.slice (some ⟨gc, 0, none⟩) 1 1) (.int .i64 0) (.int .i64 20) (.int .i64 0) (.int .i64 10) (.int .i64 0) (.int .i64 60) (.slice (some ⟨gd, 0, none⟩) 2 2))) ?_
        clear hK K z0 z1 z2 z3 z4 z5 z6 z7 z8 z9 z10 z11 z12 zf lr
        refine wpW_end (by kernel_rfl) ?_
        intro we hg hS
        unfold NQ
        dsimp only
        exact H.out _ _ _ _ _ _ _ _ _ _ _ _ _ _ _ _ _ _ _ _ we (HOK.out (Blk.gr (b4.far13 (Blk.ne_ b4 br (by decide)) (.slice (some ⟨g4, 0, none⟩) 4 4) (.string ⟨#[99]⟩) (.slice none 0 0) (.slice (some ⟨g9, 0, none⟩) 2 2) (.int .i64 1000) (.slice (some ⟨gc, 0, none⟩) 1 1) (.int .i64 0) (.int .i64 20) (.int .i64 0) (.int .i64 10) (.int .i64 0) (.int .i64 60) (.slice (some ⟨gd, 0, none⟩) 2 2)) hg) (Blk.gr (b9.far13 (Blk.ne_ b9 br (by decide)) (.slice (some ⟨g4, 0, none⟩) 4 4) (.string ⟨#[99]⟩) (.slice none 0 0) (.slice (some ⟨g9, 0, none⟩) 2 2) (.int .i64 1000) (.slice (some ⟨gc, 0, none⟩) 1 1) (.int .i64 0) (.int .i64 20) (.int .i64 0) (.int .i64 10) (.int .i64 0) (.int .i64 60) (.slice (some ⟨gd, 0, none⟩) 2 2)) hg) (Blk.gr (bc.far13 (Blk.ne_ bc br (by decide)) (.slice (some ⟨g4, 0, none⟩) 4 4) (.string ⟨#[99]⟩) (.slice none 0 0) (.slice (some ⟨g9, 0, none⟩) 2 2) (.int .i64 1000) (.slice (some ⟨gc, 0, none⟩) 1 1) (.int .i64 0) (.int .i64 20) (.int .i64 0) (.int .i64 10) (.int .i64 0) (.int .i64 60) (.slice (some ⟨gd, 0, none⟩) 2 2)) hg) (Blk.gr (bd.far13 (Blk.ne_ bd br (by decide)) (.slice (some ⟨g4, 0, none⟩) 4 4) (.string ⟨#[99]⟩) (.slice none 0 0) (.slice (some ⟨g9, 0, none⟩) 2 2) (.int .i64 1000) (.slice (some ⟨gc, 0, none⟩) 1 1) (.int .i64 0) (.int .i64 20) (.int .i64 0) (.int .i64 10) (.int .i64 0) (.int .i64 60) (.slice (some ⟨gd, 0, none⟩) 2 2)) hg)) (Blk.gr (br.set13 (.slice (some ⟨g4, 0, none⟩) 4 4) (.string ⟨#[99]⟩) (.slice none 0 0) (.slice (some ⟨g9, 0, none⟩) 2 2) (.int .i64 1000) (.slice (some ⟨gc, 0, none⟩) 1 1) (.int .i64 0) (.int .i64 20) (.int .i64 0) (.int .i64 10) (.int .i64 0) (.int .i64 60) (.slice (some ⟨gd, 0, none⟩) 2 2)) hg) hS.1
      · refine wpOp_go (by rfl) (Eq.refl _) (by go_simp; done) ?_
        intro K hK
        go_simp
        try simp only [Act.put]
        have bd := Blk.new w3 75 #[.int .i64 100, .int .i64 5, .int .i64 900, .int .i64 12]
        have hal : Gr w3 (w3.alloc (.cells #[.int .i64 100, .int .i64 5, .int .i64 900, .int .i64 12] 75)) := (Below.refl _ _).alloc (Nat.le_refl _) _
        replace z := And.intro (Below.trans z.1 (Below.mono hal (Below.size z.1))) (Blk.gr z.2 hal)
        replace br := Blk.gr br hal
        try replace b4 := Blk.gr b4 hal
        try replace b9 := Blk.gr b9 hal
        try replace bc := Blk.gr bc hal
        clear hal
        generalize w3.heap.size = gd at *
        refine hK _ _ z ?_
        clear hK K
        refine wpW_branch [9] (by kernel_rfl) (by simp) ?_
        intro w4 hg4 hS4
        try clear z
        have z := hS4
        replace br := Blk.gr br hg4
        replace b4 := Blk.gr b4 hg4
        replace bc := Blk.gr bc hg4
        replace bd := Blk.gr bd hg4
        refine each_cons ?_ (each_nil)
        refine wpOp_go (by rfl) (Eq.refl _) (by go_simp; done) ?_
        intro K hK
        go_simp
        try simp only [Act.put]
        have b9 := Blk.new w4 110 #[.int .i64 (weldLow 0), .int .i64 (weldLow 1), .int .i64 (weldLow 2), .int .i64 (weldLow 3), .int .i64 (weldLow 4), .int .i64 (weldLow 5), .int .i64 (weldLow 6), .int .i64 (weldLow 7), .int .i64 (weldLow 8), .int .i64 (weldLow 9), .int .i64 (weldLow 10), .int .i64 (weldLow 11), .int .i64 0, .int .i64 (weldTop 0), .int .i64 (weldTop 1), .int .i64 (weldTop 2), .int .i64 (weldTop 3), .int .i64 (weldTop 4), .int .i64 (weldTop 5), .int .i64 (weldTop 6), .int .i64 (weldTop 7), .int .i64 (weldTop 8), .int .i64 (weldTop 9), .int .i64 (weldTop 10), .int .i64 (weldTop 11), .int .i64 1]
        have hal : Gr w4 (w4.alloc (.cells #[.int .i64 (weldLow 0), .int .i64 (weldLow 1), .int .i64 (weldLow 2), .int .i64 (weldLow 3), .int .i64 (weldLow 4), .int .i64 (weldLow 5), .int .i64 (weldLow 6), .int .i64 (weldLow 7), .int .i64 (weldLow 8), .int .i64 (weldLow 9), .int .i64 (weldLow 10), .int .i64 (weldLow 11), .int .i64 0, .int .i64 (weldTop 0), .int .i64 (weldTop 1), .int .i64 (weldTop 2), .int .i64 (weldTop 3), .int .i64 (weldTop 4), .int .i64 (weldTop 5), .int .i64 (weldTop 6), .int .i64 (weldTop 7), .int .i64 (weldTop 8), .int .i64 (weldTop 9), .int .i64 (weldTop 10), .int .i64 (weldTop 11), .int .i64 1] 110)) := (Below.refl _ _).alloc (Nat.le_refl _) _
        replace z := And.intro (Below.trans z.1 (Below.mono hal (Below.size z.1))) (Blk.gr z.2 hal)
        replace br := Blk.gr br hal
        try replace b4 := Blk.gr b4 hal
        try replace bc := Blk.gr bc hal
        try replace bd := Blk.gr bd hal
        clear hal
        generalize w4.heap.size = g9 at *
        refine hK _ _ z ?_
        clear hK K
        refine wpW_det (t' := ?ct10R22) 10 (by rfl) (by kernel_rfl) (NQ_free _) (by kernel_rfl) ?cw10R22 ?ch10R22 ?ca10R22 (Eq.refl _) ?cH10R22
        case cw10R22 => (go_simp; done)
        case ch10R22 =>
          intro ds w' hS K hK
          go_simp
          try go_bits
          exact hK _ hS (Gr.refl _)
        case ca10R22 => (first | (simp [Act.put]; done) | (simp [Act.put, *]; done))
        try dsimp only
        refine wpW_det (t' := ?ct18R23) 18 (by rfl) (by kernel_rfl) (NQ_free _) (by kernel_rfl) ?cw18R23 ?ch18R23 ?ca18R23 (Eq.refl _) ?cH18R23
        case cw18R23 => (go_simp; done)
        case ch18R23 =>
          intro ds w' hS K hK
          go_simp
          try go_bits
          exact hK _ hS (Gr.refl _)
        case ca18R23 => (first | (simp [Act.put]; done) | (simp [Act.put, *]; done))
        try dsimp only
        refine wpW_branch [19] (by kernel_rfl) (by simp) ?_
        intro wz hg_wz hS_wz
        replace br := Blk.gr br hg_wz
        replace b4 := Blk.gr b4 hg_wz
        replace b9 := Blk.gr b9 hg_wz
        replace bc := Blk.gr bc hg_wz
        replace bd := Blk.gr bd hg_wz
        obtain ⟨z0, z1, z2, z3, z4, z5, z6, z7, z8, z9, z10, z11, z12, zf⟩ := blk13 br
        have lr := br.lt
        refine each_cons ?_ each_nil
        refine wpOp_go (by rfl) (Eq.refl _) (by go_simp; done) ?_
        intro K hK
        go_simp
        try simp only [Act.put]
        refine hK _ _ (And.intro (Below.set13 hS_wz.1 HGR.out (.slice (some ⟨g4, 0, none⟩) 4 4) (.string ⟨#[99]⟩) (.slice none 0 0) (.slice (some ⟨g9, 0, none⟩) 2 2) (.int .i64 1000) (.slice (some ⟨gc, 0, none⟩) 1 1) (.int .i64 0) (.int .i64 20) (.int .i64 0) (.int .i64 10) (.int .i64 0) (.int .i64 60) (.slice (some ⟨gd, 0, none⟩) 2 2)) (Blk.far13 hS_wz.2 (Blk.ne_ hS_wz.2 br (by decide)) (.slice (some ⟨g4, 0, none⟩) 4 4) (.string ⟨#[99]⟩) (.slice none 0 0) (.slice (some ⟨g9, 0, none⟩) 2 2) (.int .i64 1000) (.slice (some ⟨gc, 0, none⟩) 1 1) (.int .i64 0) (.int .i64 20) (.int .i64 0) (.int .i64 10) (.int .i64 0) (.int .i64 60) (.slice (some ⟨gd, 0, none⟩) 2 2))) ?_
        clear hK K z0 z1 z2 z3 z4 z5 z6 z7 z8 z9 z10 z11 z12 zf lr
        refine wpW_end (by kernel_rfl) ?_
        intro we hg hS
        unfold NQ
        dsimp only
        exact H.out _ _ _ _ _ _ _ _ _ _ _ _ _ _ _ _ _ _ _ _ we (HOK.out (Blk.gr (b4.far13 (Blk.ne_ b4 br (by decide)) (.slice (some ⟨g4, 0, none⟩) 4 4) (.string ⟨#[99]⟩) (.slice none 0 0) (.slice (some ⟨g9, 0, none⟩) 2 2) (.int .i64 1000) (.slice (some ⟨gc, 0, none⟩) 1 1) (.int .i64 0) (.int .i64 20) (.int .i64 0) (.int .i64 10) (.int .i64 0) (.int .i64 60) (.slice (some ⟨gd, 0, none⟩) 2 2)) hg) (Blk.gr (b9.far13 (Blk.ne_ b9 br (by decide)) (.slice (some ⟨g4, 0, none⟩) 4 4) (.string ⟨#[99]⟩) (.slice none 0 0) (.slice (some ⟨g9, 0, none⟩) 2 2) (.int .i64 1000) (.slice (some ⟨gc, 0, none⟩) 1 1) (.int .i64 0) (.int .i64 20) (.int .i64 0) (.int .i64 10) (.int .i64 0) (.int .i64 60) (.slice (some ⟨gd, 0, none⟩) 2 2)) hg) (Blk.gr (bc.far13 (Blk.ne_ bc br (by decide)) (.slice (some ⟨g4, 0, none⟩) 4 4) (.string ⟨#[99]⟩) (.slice none 0 0) (.slice (some ⟨g9, 0, none⟩) 2 2) (.int .i64 1000) (.slice (some ⟨gc, 0, none⟩) 1 1) (.int .i64 0) (.int .i64 20) (.int .i64 0) (.int .i64 10) (.int .i64 0) (.int .i64 60) (.slice (some ⟨gd, 0, none⟩) 2 2)) hg) (Blk.gr (bd.far13 (Blk.ne_ bd br (by decide)) (.slice (some ⟨g4, 0, none⟩) 4 4) (.string ⟨#[99]⟩) (.slice none 0 0) (.slice (some ⟨g9, 0, none⟩) 2 2) (.int .i64 1000) (.slice (some ⟨gc, 0, none⟩) 1 1) (.int .i64 0) (.int .i64 20) (.int .i64 0) (.int .i64 10) (.int .i64 0) (.int .i64 60) (.slice (some ⟨gd, 0, none⟩) 2 2)) hg)) (Blk.gr (br.set13 (.slice (some ⟨g4, 0, none⟩) 4 4) (.string ⟨#[99]⟩) (.slice none 0 0) (.slice (some ⟨g9, 0, none⟩) 2 2) (.int .i64 1000) (.slice (some ⟨gc, 0, none⟩) 1 1) (.int .i64 0) (.int .i64 20) (.int .i64 0) (.int .i64 10) (.int .i64 0) (.int .i64 60) (.slice (some ⟨gd, 0, none⟩) 2 2)) hg) hS.1
    · refine wpOp_go (by rfl) (Eq.refl _) (by go_simp; done) ?_
      intro K hK
      go_simp
      try simp only [Act.put]
      have b9 := Blk.new w2 110 #[.int .i64 (weldLow 0), .int .i64 (weldLow 1), .int .i64 (weldLow 2), .int .i64 (weldLow 3), .int .i64 (weldLow 4), .int .i64 (weldLow 5), .int .i64 (weldLow 6), .int .i64 (weldLow 7), .int .i64 (weldLow 8), .int .i64 (weldLow 9), .int .i64 (weldLow 10), .int .i64 (weldLow 11), .int .i64 0, .int .i64 (weldTop 0), .int .i64 (weldTop 1), .int .i64 (weldTop 2), .int .i64 (weldTop 3), .int .i64 (weldTop 4), .int .i64 (weldTop 5), .int .i64 (weldTop 6), .int .i64 (weldTop 7), .int .i64 (weldTop 8), .int .i64 (weldTop 9), .int .i64 (weldTop 10), .int .i64 (weldTop 11), .int .i64 1]
      have hal : Gr w2 (w2.alloc (.cells #[.int .i64 (weldLow 0), .int .i64 (weldLow 1), .int .i64 (weldLow 2), .int .i64 (weldLow 3), .int .i64 (weldLow 4), .int .i64 (weldLow 5), .int .i64 (weldLow 6), .int .i64 (weldLow 7), .int .i64 (weldLow 8), .int .i64 (weldLow 9), .int .i64 (weldLow 10), .int .i64 (weldLow 11), .int .i64 0, .int .i64 (weldTop 0), .int .i64 (weldTop 1), .int .i64 (weldTop 2), .int .i64 (weldTop 3), .int .i64 (weldTop 4), .int .i64 (weldTop 5), .int .i64 (weldTop 6), .int .i64 (weldTop 7), .int .i64 (weldTop 8), .int .i64 (weldTop 9), .int .i64 (weldTop 10), .int .i64 (weldTop 11), .int .i64 1] 110)) := (Below.refl _ _).alloc (Nat.le_refl _) _
      replace z := And.intro (Below.trans z.1 (Below.mono hal (Below.size z.1))) (Blk.gr z.2 hal)
      replace br := Blk.gr br hal
      try replace b4 := Blk.gr b4 hal
      try replace bc := Blk.gr bc hal
      try replace bd := Blk.gr bd hal
      clear hal
      generalize w2.heap.size = g9 at *
      refine hK _ _ z ?_
      clear hK K
      refine wpW_det (t' := ?ct10R24) 10 (by rfl) (by kernel_rfl) (NQ_free _) (by kernel_rfl) ?cw10R24 ?ch10R24 ?ca10R24 (Eq.refl _) ?cH10R24
      case cw10R24 => (go_simp; done)
      case ch10R24 =>
        intro ds w' hS K hK
        go_simp
        try go_bits
        exact hK _ hS (Gr.refl _)
      case ca10R24 => (first | (simp [Act.put]; done) | (simp [Act.put, *]; done))
      try dsimp only
      refine wpW_branch [4, 17] (by kernel_rfl) (by simp) ?_
      intro w3 hg3 hS3
      try clear z
      have z := hS3
      replace br := Blk.gr br hg3
      replace b9 := Blk.gr b9 hg3
      replace bc := Blk.gr bc hg3
      refine each_cons ?_ (each_cons ?_ (each_nil))
      · refine wpOp_go (by rfl) (Eq.refl _) (by go_simp; done) ?_
        intro K hK
        go_simp
        try simp only [Act.put]
        have b4 := Blk.new w3 57 #[.string ⟨#[97, 110, 110]⟩, .int .i64 1, .string ⟨#[98, 111, 98]⟩, .int .i64 2, .string ⟨#[99, 105, 100]⟩, .int .i64 2, .string ⟨#[100, 111, 114, 97]⟩, .int .i64 3]
        have hal : Gr w3 (w3.alloc (.cells #[.string ⟨#[97, 110, 110]⟩, .int .i64 1, .string ⟨#[98, 111, 98]⟩, .int .i64 2, .string ⟨#[99, 105, 100]⟩, .int .i64 2, .string ⟨#[100, 111, 114, 97]⟩, .int .i64 3] 57)) := (Below.refl _ _).alloc (Nat.le_refl _) _
        replace z := And.intro (Below.trans z.1 (Below.mono hal (Below.size z.1))) (Blk.gr z.2 hal)
        replace br := Blk.gr br hal
        try replace b9 := Blk.gr b9 hal
        try replace bc := Blk.gr bc hal
        try replace bd := Blk.gr bd hal
        clear hal
        generalize w3.heap.size = g4 at *
        refine hK _ _ z ?_
        clear hK K
        refine wpW_branch [17] (by kernel_rfl) (by simp) ?_
        intro w4 hg4 hS4
        try clear z
        have z := hS4
        replace br := Blk.gr br hg4
        replace b4 := Blk.gr b4 hg4
        replace b9 := Blk.gr b9 hg4
        replace bc := Blk.gr bc hg4
        refine each_cons ?_ (each_nil)
        refine wpOp_go (by rfl) (Eq.refl _) (by go_simp; done) ?_
        intro K hK
        go_simp
        try simp only [Act.put]
        have bd := Blk.new w4 75 #[.int .i64 100, .int .i64 5, .int .i64 900, .int .i64 12]
        have hal : Gr w4 (w4.alloc (.cells #[.int .i64 100, .int .i64 5, .int .i64 900, .int .i64 12] 75)) := (Below.refl _ _).alloc (Nat.le_refl _) _
        replace z := And.intro (Below.trans z.1 (Below.mono hal (Below.size z.1))) (Blk.gr z.2 hal)
        replace br := Blk.gr br hal
        try replace b4 := Blk.gr b4 hal
        try replace b9 := Blk.gr b9 hal
        try replace bc := Blk.gr bc hal
        clear hal
        generalize w4.heap.size = gd at *
        refine hK _ _ z ?_
        clear hK K
        refine wpW_det (t' := ?ct18R25) 18 (by rfl) (by kernel_rfl) (NQ_free _) (by kernel_rfl) ?cw18R25 ?ch18R25 ?ca18R25 (Eq.refl _) ?cH18R25
        case cw18R25 => (go_simp; done)
        case ch18R25 =>
          intro ds w' hS K hK
          go_simp
          try go_bits
          exact hK _ hS (Gr.refl _)
        case ca18R25 => (first | (simp [Act.put]; done) | (simp [Act.put, *]; done))
        try dsimp only
        refine wpW_branch [19] (by kernel_rfl) (by simp) ?_
        intro wz hg_wz hS_wz
        replace br := Blk.gr br hg_wz
        replace b4 := Blk.gr b4 hg_wz
        replace b9 := Blk.gr b9 hg_wz
        replace bc := Blk.gr bc hg_wz
        replace bd := Blk.gr bd hg_wz
        obtain ⟨z0, z1, z2, z3, z4, z5, z6, z7, z8, z9, z10, z11, z12, zf⟩ := blk13 br
        have lr := br.lt
        refine each_cons ?_ each_nil
        refine wpOp_go (by rfl) (Eq.refl _) (by go_simp; done) ?_
        intro K hK
        go_simp
        try simp only [Act.put]
        refine hK _ _ (And.intro (Below.set13 hS_wz.1 HGR.out (.slice (some ⟨g4, 0, none⟩) 4 4) (.string ⟨#[99]⟩) (.slice none 0 0) (.slice (some ⟨g9, 0, none⟩) 2 2) (.int .i64 1000) (.slice (some ⟨gc, 0, none⟩) 1 1) (.int .i64 0) (.int .i64 20) (.int .i64 0) (.int .i64 10) (.int .i64 0) (.int .i64 60) (.slice (some ⟨gd, 0, none⟩) 2 2)) (Blk.far13 hS_wz.2 (Blk.ne_ hS_wz.2 br (by decide)) (.slice (some ⟨g4, 0, none⟩) 4 4) (.string ⟨#[99]⟩) (.slice none 0 0) (.slice (some ⟨g9, 0, none⟩) 2 2) (.int .i64 1000) (.slice (some ⟨gc, 0, none⟩) 1 1) (.int .i64 0) (.int .i64 20) (.int .i64 0) (.int .i64 10) (.int .i64 0) (.int .i64 60) (.slice (some ⟨gd, 0, none⟩) 2 2))) ?_
        clear hK K z0 z1 z2 z3 z4 z5 z6 z7 z8 z9 z10 z11 z12 zf lr
        refine wpW_end (by kernel_rfl) ?_
        intro we hg hS
        unfold NQ
        dsimp only
        exact H.out _ _ _ _ _ _ _ _ _ _ _ _ _ _ _ _ _ _ _ _ we (HOK.out (Blk.gr (b4.far13 (Blk.ne_ b4 br (by decide)) (.slice (some ⟨g4, 0, none⟩) 4 4) (.string ⟨#[99]⟩) (.slice none 0 0) (.slice (some ⟨g9, 0, none⟩) 2 2) (.int .i64 1000) (.slice (some ⟨gc, 0, none⟩) 1 1) (.int .i64 0) (.int .i64 20) (.int .i64 0) (.int .i64 10) (.int .i64 0) (.int .i64 60) (.slice (some ⟨gd, 0, none⟩) 2 2)) hg) (Blk.gr (b9.far13 (Blk.ne_ b9 br (by decide)) (.slice (some ⟨g4, 0, none⟩) 4 4) (.string ⟨#[99]⟩) (.slice none 0 0) (.slice (some ⟨g9, 0, none⟩) 2 2) (.int .i64 1000) (.slice (some ⟨gc, 0, none⟩) 1 1) (.int .i64 0) (.int .i64 20) (.int .i64 0) (.int .i64 10) (.int .i64 0) (.int .i64 60) (.slice (some ⟨gd, 0, none⟩) 2 2)) hg) (Blk.gr (bc.far13 (Blk.ne_ bc br (by decide)) (.slice (some ⟨g4, 0, none⟩) 4 4) (.string ⟨#[99]⟩) (.slice none 0 0) (.slice (some ⟨g9, 0, none⟩) 2 2) (.int .i64 1000) (.slice (some ⟨gc, 0, none⟩) 1 1) (.int .i64 0) (.int .i64 20) (.int .i64 0) (.int .i64 10) (.int .i64 0) (.int .i64 60) (.slice (some ⟨gd, 0, none⟩) 2 2)) hg) (Blk.gr (bd.far13 (Blk.ne_ bd br (by decide)) (.slice (some ⟨g4, 0, none⟩) 4 4) (.string ⟨#[99]⟩) (.slice none 0 0) (.slice (some ⟨g9, 0, none⟩) 2 2) (.int .i64 1000) (.slice (some ⟨gc, 0, none⟩) 1 1) (.int .i64 0) (.int .i64 20) (.int .i64 0) (.int .i64 10) (.int .i64 0) (.int .i64 60) (.slice (some ⟨gd, 0, none⟩) 2 2)) hg)) (Blk.gr (br.set13 (.slice (some ⟨g4, 0, none⟩) 4 4) (.string ⟨#[99]⟩) (.slice none 0 0) (.slice (some ⟨g9, 0, none⟩) 2 2) (.int .i64 1000) (.slice (some ⟨gc, 0, none⟩) 1 1) (.int .i64 0) (.int .i64 20) (.int .i64 0) (.int .i64 10) (.int .i64 0) (.int .i64 60) (.slice (some ⟨gd, 0, none⟩) 2 2)) hg) hS.1
      · refine wpOp_go (by rfl) (Eq.refl _) (by go_simp; done) ?_
        intro K hK
        go_simp
        try simp only [Act.put]
        have bd := Blk.new w3 75 #[.int .i64 100, .int .i64 5, .int .i64 900, .int .i64 12]
        have hal : Gr w3 (w3.alloc (.cells #[.int .i64 100, .int .i64 5, .int .i64 900, .int .i64 12] 75)) := (Below.refl _ _).alloc (Nat.le_refl _) _
        replace z := And.intro (Below.trans z.1 (Below.mono hal (Below.size z.1))) (Blk.gr z.2 hal)
        replace br := Blk.gr br hal
        try replace b4 := Blk.gr b4 hal
        try replace b9 := Blk.gr b9 hal
        try replace bc := Blk.gr bc hal
        clear hal
        generalize w3.heap.size = gd at *
        refine hK _ _ z ?_
        clear hK K
        refine wpW_branch [4] (by kernel_rfl) (by simp) ?_
        intro w4 hg4 hS4
        try clear z
        have z := hS4
        replace br := Blk.gr br hg4
        replace b9 := Blk.gr b9 hg4
        replace bc := Blk.gr bc hg4
        replace bd := Blk.gr bd hg4
        refine each_cons ?_ (each_nil)
        refine wpOp_go (by rfl) (Eq.refl _) (by go_simp; done) ?_
        intro K hK
        go_simp
        try simp only [Act.put]
        have b4 := Blk.new w4 57 #[.string ⟨#[97, 110, 110]⟩, .int .i64 1, .string ⟨#[98, 111, 98]⟩, .int .i64 2, .string ⟨#[99, 105, 100]⟩, .int .i64 2, .string ⟨#[100, 111, 114, 97]⟩, .int .i64 3]
        have hal : Gr w4 (w4.alloc (.cells #[.string ⟨#[97, 110, 110]⟩, .int .i64 1, .string ⟨#[98, 111, 98]⟩, .int .i64 2, .string ⟨#[99, 105, 100]⟩, .int .i64 2, .string ⟨#[100, 111, 114, 97]⟩, .int .i64 3] 57)) := (Below.refl _ _).alloc (Nat.le_refl _) _
        replace z := And.intro (Below.trans z.1 (Below.mono hal (Below.size z.1))) (Blk.gr z.2 hal)
        replace br := Blk.gr br hal
        try replace b9 := Blk.gr b9 hal
        try replace bc := Blk.gr bc hal
        try replace bd := Blk.gr bd hal
        clear hal
        generalize w4.heap.size = g4 at *
        refine hK _ _ z ?_
        clear hK K
        refine wpW_det (t' := ?ct18R26) 18 (by rfl) (by kernel_rfl) (NQ_free _) (by kernel_rfl) ?cw18R26 ?ch18R26 ?ca18R26 (Eq.refl _) ?cH18R26
        case cw18R26 => (go_simp; done)
        case ch18R26 =>
          intro ds w' hS K hK
          go_simp
          try go_bits
          exact hK _ hS (Gr.refl _)
        case ca18R26 => (first | (simp [Act.put]; done) | (simp [Act.put, *]; done))
        try dsimp only
        refine wpW_branch [19] (by kernel_rfl) (by simp) ?_
        intro wz hg_wz hS_wz
        replace br := Blk.gr br hg_wz
        replace b4 := Blk.gr b4 hg_wz
        replace b9 := Blk.gr b9 hg_wz
        replace bc := Blk.gr bc hg_wz
        replace bd := Blk.gr bd hg_wz
        obtain ⟨z0, z1, z2, z3, z4, z5, z6, z7, z8, z9, z10, z11, z12, zf⟩ := blk13 br
        have lr := br.lt
        refine each_cons ?_ each_nil
        refine wpOp_go (by rfl) (Eq.refl _) (by go_simp; done) ?_
        intro K hK
        go_simp
        try simp only [Act.put]
        refine hK _ _ (And.intro (Below.set13 hS_wz.1 HGR.out (.slice (some ⟨g4, 0, none⟩) 4 4) (.string ⟨#[99]⟩) (.slice none 0 0) (.slice (some ⟨g9, 0, none⟩) 2 2) (.int .i64 1000) (.slice (some ⟨gc, 0, none⟩) 1 1) (.int .i64 0) (.int .i64 20) (.int .i64 0) (.int .i64 10) (.int .i64 0) (.int .i64 60) (.slice (some ⟨gd, 0, none⟩) 2 2)) (Blk.far13 hS_wz.2 (Blk.ne_ hS_wz.2 br (by decide)) (.slice (some ⟨g4, 0, none⟩) 4 4) (.string ⟨#[99]⟩) (.slice none 0 0) (.slice (some ⟨g9, 0, none⟩) 2 2) (.int .i64 1000) (.slice (some ⟨gc, 0, none⟩) 1 1) (.int .i64 0) (.int .i64 20) (.int .i64 0) (.int .i64 10) (.int .i64 0) (.int .i64 60) (.slice (some ⟨gd, 0, none⟩) 2 2))) ?_
        clear hK K z0 z1 z2 z3 z4 z5 z6 z7 z8 z9 z10 z11 z12 zf lr
        refine wpW_end (by kernel_rfl) ?_
        intro we hg hS
        unfold NQ
        dsimp only
        exact H.out _ _ _ _ _ _ _ _ _ _ _ _ _ _ _ _ _ _ _ _ we (HOK.out (Blk.gr (b4.far13 (Blk.ne_ b4 br (by decide)) (.slice (some ⟨g4, 0, none⟩) 4 4) (.string ⟨#[99]⟩) (.slice none 0 0) (.slice (some ⟨g9, 0, none⟩) 2 2) (.int .i64 1000) (.slice (some ⟨gc, 0, none⟩) 1 1) (.int .i64 0) (.int .i64 20) (.int .i64 0) (.int .i64 10) (.int .i64 0) (.int .i64 60) (.slice (some ⟨gd, 0, none⟩) 2 2)) hg) (Blk.gr (b9.far13 (Blk.ne_ b9 br (by decide)) (.slice (some ⟨g4, 0, none⟩) 4 4) (.string ⟨#[99]⟩) (.slice none 0 0) (.slice (some ⟨g9, 0, none⟩) 2 2) (.int .i64 1000) (.slice (some ⟨gc, 0, none⟩) 1 1) (.int .i64 0) (.int .i64 20) (.int .i64 0) (.int .i64 10) (.int .i64 0) (.int .i64 60) (.slice (some ⟨gd, 0, none⟩) 2 2)) hg) (Blk.gr (bc.far13 (Blk.ne_ bc br (by decide)) (.slice (some ⟨g4, 0, none⟩) 4 4) (.string ⟨#[99]⟩) (.slice none 0 0) (.slice (some ⟨g9, 0, none⟩) 2 2) (.int .i64 1000) (.slice (some ⟨gc, 0, none⟩) 1 1) (.int .i64 0) (.int .i64 20) (.int .i64 0) (.int .i64 10) (.int .i64 0) (.int .i64 60) (.slice (some ⟨gd, 0, none⟩) 2 2)) hg) (Blk.gr (bd.far13 (Blk.ne_ bd br (by decide)) (.slice (some ⟨g4, 0, none⟩) 4 4) (.string ⟨#[99]⟩) (.slice none 0 0) (.slice (some ⟨g9, 0, none⟩) 2 2) (.int .i64 1000) (.slice (some ⟨gc, 0, none⟩) 1 1) (.int .i64 0) (.int .i64 20) (.int .i64 0) (.int .i64 10) (.int .i64 0) (.int .i64 60) (.slice (some ⟨gd, 0, none⟩) 2 2)) hg)) (Blk.gr (br.set13 (.slice (some ⟨g4, 0, none⟩) 4 4) (.string ⟨#[99]⟩) (.slice none 0 0) (.slice (some ⟨g9, 0, none⟩) 2 2) (.int .i64 1000) (.slice (some ⟨gc, 0, none⟩) 1 1) (.int .i64 0) (.int .i64 20) (.int .i64 0) (.int .i64 10) (.int .i64 0) (.int .i64 60) (.slice (some ⟨gd, 0, none⟩) 2 2)) hg) hS.1
    · refine wpOp_go (by rfl) (Eq.refl _) (by go_simp; done) ?_
      intro K hK
      go_simp
      try simp only [Act.put]
      have bd := Blk.new w2 75 #[.int .i64 100, .int .i64 5, .int .i64 900, .int .i64 12]
      have hal : Gr w2 (w2.alloc (.cells #[.int .i64 100, .int .i64 5, .int .i64 900, .int .i64 12] 75)) := (Below.refl _ _).alloc (Nat.le_refl _) _
      replace z := And.intro (Below.trans z.1 (Below.mono hal (Below.size z.1))) (Blk.gr z.2 hal)
      replace br := Blk.gr br hal
      try replace b4 := Blk.gr b4 hal
      try replace b9 := Blk.gr b9 hal
      try replace bc := Blk.gr bc hal
      clear hal
      generalize w2.heap.size = gd at *
      refine hK _ _ z ?_
      clear hK K
      refine wpW_branch [4, 9] (by kernel_rfl) (by simp) ?_
      intro w3 hg3 hS3
      try clear z
      have z := hS3
      replace br := Blk.gr br hg3
      replace bc := Blk.gr bc hg3
      replace bd := Blk.gr bd hg3
      refine each_cons ?_ (each_cons ?_ (each_nil))
      · refine wpOp_go (by rfl) (Eq.refl _) (by go_simp; done) ?_
        intro K hK
        go_simp
        try simp only [Act.put]
        have b4 := Blk.new w3 57 #[.string ⟨#[97, 110, 110]⟩, .int .i64 1, .string ⟨#[98, 111, 98]⟩, .int .i64 2, .string ⟨#[99, 105, 100]⟩, .int .i64 2, .string ⟨#[100, 111, 114, 97]⟩, .int .i64 3]
        have hal : Gr w3 (w3.alloc (.cells #[.string ⟨#[97, 110, 110]⟩, .int .i64 1, .string ⟨#[98, 111, 98]⟩, .int .i64 2, .string ⟨#[99, 105, 100]⟩, .int .i64 2, .string ⟨#[100, 111, 114, 97]⟩, .int .i64 3] 57)) := (Below.refl _ _).alloc (Nat.le_refl _) _
        replace z := And.intro (Below.trans z.1 (Below.mono hal (Below.size z.1))) (Blk.gr z.2 hal)
        replace br := Blk.gr br hal
        try replace b9 := Blk.gr b9 hal
        try replace bc := Blk.gr bc hal
        try replace bd := Blk.gr bd hal
        clear hal
        generalize w3.heap.size = g4 at *
        refine hK _ _ z ?_
        clear hK K
        refine wpW_branch [9] (by kernel_rfl) (by simp) ?_
        intro w4 hg4 hS4
        try clear z
        have z := hS4
        replace br := Blk.gr br hg4
        replace b4 := Blk.gr b4 hg4
        replace bc := Blk.gr bc hg4
        replace bd := Blk.gr bd hg4
        refine each_cons ?_ (each_nil)
        refine wpOp_go (by rfl) (Eq.refl _) (by go_simp; done) ?_
        intro K hK
        go_simp
        try simp only [Act.put]
        have b9 := Blk.new w4 110 #[.int .i64 (weldLow 0), .int .i64 (weldLow 1), .int .i64 (weldLow 2), .int .i64 (weldLow 3), .int .i64 (weldLow 4), .int .i64 (weldLow 5), .int .i64 (weldLow 6), .int .i64 (weldLow 7), .int .i64 (weldLow 8), .int .i64 (weldLow 9), .int .i64 (weldLow 10), .int .i64 (weldLow 11), .int .i64 0, .int .i64 (weldTop 0), .int .i64 (weldTop 1), .int .i64 (weldTop 2), .int .i64 (weldTop 3), .int .i64 (weldTop 4), .int .i64 (weldTop 5), .int .i64 (weldTop 6), .int .i64 (weldTop 7), .int .i64 (weldTop 8), .int .i64 (weldTop 9), .int .i64 (weldTop 10), .int .i64 (weldTop 11), .int .i64 1]
        have hal : Gr w4 (w4.alloc (.cells #[.int .i64 (weldLow 0), .int .i64 (weldLow 1), .int .i64 (weldLow 2), .int .i64 (weldLow 3), .int .i64 (weldLow 4), .int .i64 (weldLow 5), .int .i64 (weldLow 6), .int .i64 (weldLow 7), .int .i64 (weldLow 8), .int .i64 (weldLow 9), .int .i64 (weldLow 10), .int .i64 (weldLow 11), .int .i64 0, .int .i64 (weldTop 0), .int .i64 (weldTop 1), .int .i64 (weldTop 2), .int .i64 (weldTop 3), .int .i64 (weldTop 4), .int .i64 (weldTop 5), .int .i64 (weldTop 6), .int .i64 (weldTop 7), .int .i64 (weldTop 8), .int .i64 (weldTop 9), .int .i64 (weldTop 10), .int .i64 (weldTop 11), .int .i64 1] 110)) := (Below.refl _ _).alloc (Nat.le_refl _) _
        replace z := And.intro (Below.trans z.1 (Below.mono hal (Below.size z.1))) (Blk.gr z.2 hal)
        replace br := Blk.gr br hal
        try replace b4 := Blk.gr b4 hal
        try replace bc := Blk.gr bc hal
        try replace bd := Blk.gr bd hal
        clear hal
        generalize w4.heap.size = g9 at *
        refine hK _ _ z ?_
        clear hK K
        refine wpW_det (t' := ?ct10R27) 10 (by rfl) (by kernel_rfl) (NQ_free _) (by kernel_rfl) ?cw10R27 ?ch10R27 ?ca10R27 (Eq.refl _) ?cH10R27
        case cw10R27 => (go_simp; done)
        case ch10R27 =>
          intro ds w' hS K hK
          go_simp
          try go_bits
          exact hK _ hS (Gr.refl _)
        case ca10R27 => (first | (simp [Act.put]; done) | (simp [Act.put, *]; done))
        try dsimp only
        refine wpW_det (t' := ?ct18R28) 18 (by rfl) (by kernel_rfl) (NQ_free _) (by kernel_rfl) ?cw18R28 ?ch18R28 ?ca18R28 (Eq.refl _) ?cH18R28
        case cw18R28 => (go_simp; done)
        case ch18R28 =>
          intro ds w' hS K hK
          go_simp
          try go_bits
          exact hK _ hS (Gr.refl _)
        case ca18R28 => (first | (simp [Act.put]; done) | (simp [Act.put, *]; done))
        try dsimp only
        refine wpW_branch [19] (by kernel_rfl) (by simp) ?_
        intro wz hg_wz hS_wz
        replace br := Blk.gr br hg_wz
        replace b4 := Blk.gr b4 hg_wz
        replace b9 := Blk.gr b9 hg_wz
        replace bc := Blk.gr bc hg_wz
        replace bd := Blk.gr bd hg_wz
        obtain ⟨z0, z1, z2, z3, z4, z5, z6, z7, z8, z9, z10, z11, z12, zf⟩ := blk13 br
        have lr := br.lt
        refine each_cons ?_ each_nil
        refine wpOp_go (by rfl) (Eq.refl _) (by go_simp; done) ?_
        intro K hK
        go_simp
        try simp only [Act.put]
        refine hK _ _ (And.intro (Below.set13 hS_wz.1 HGR.out (.slice (some ⟨g4, 0, none⟩) 4 4) (.string ⟨#[99]⟩) (.slice none 0 0) (.slice (some ⟨g9, 0, none⟩) 2 2) (.int .i64 1000) (.slice (some ⟨gc, 0, none⟩) 1 1) (.int .i64 0) (.int .i64 20) (.int .i64 0) (.int .i64 10) (.int .i64 0) (.int .i64 60) (.slice (some ⟨gd, 0, none⟩) 2 2)) (Blk.far13 hS_wz.2 (Blk.ne_ hS_wz.2 br (by decide)) (.slice (some ⟨g4, 0, none⟩) 4 4) (.string ⟨#[99]⟩) (.slice none 0 0) (.slice (some ⟨g9, 0, none⟩) 2 2) (.int .i64 1000) (.slice (some ⟨gc, 0, none⟩) 1 1) (.int .i64 0) (.int .i64 20) (.int .i64 0) (.int .i64 10) (.int .i64 0) (.int .i64 60) (.slice (some ⟨gd, 0, none⟩) 2 2))) ?_
        clear hK K z0 z1 z2 z3 z4 z5 z6 z7 z8 z9 z10 z11 z12 zf lr
        refine wpW_end (by kernel_rfl) ?_
        intro we hg hS
        unfold NQ
        dsimp only
        exact H.out _ _ _ _ _ _ _ _ _ _ _ _ _ _ _ _ _ _ _ _ we (HOK.out (Blk.gr (b4.far13 (Blk.ne_ b4 br (by decide)) (.slice (some ⟨g4, 0, none⟩) 4 4) (.string ⟨#[99]⟩) (.slice none 0 0) (.slice (some ⟨g9, 0, none⟩) 2 2) (.int .i64 1000) (.slice (some ⟨gc, 0, none⟩) 1 1) (.int .i64 0) (.int .i64 20) (.int .i64 0) (.int .i64 10) (.int .i64 0) (.int .i64 60) (.slice (some ⟨gd, 0, none⟩) 2 2)) hg) (Blk.gr (b9.far13 (Blk.ne_ b9 br (by decide)) (.slice (some ⟨g4, 0, none⟩) 4 4) (.string ⟨#[99]⟩) (.slice none 0 0) (.slice (some ⟨g9, 0, none⟩) 2 2) (.int .i64 1000) (.slice (some ⟨gc, 0, none⟩) 1 1) (.int .i64 0) (.int .i64 20) (.int .i64 0) (.int .i64 10) (.int .i64 0) (.int .i64 60) (.slice (some ⟨gd, 0, none⟩) 2 2)) hg) (Blk.gr (bc.far13 (Blk.ne_ bc br (by decide)) (.slice (some ⟨g4, 0, none⟩) 4 4) (.string ⟨#[99]⟩) (.slice none 0 0) (.slice (some ⟨g9, 0, none⟩) 2 2) (.int .i64 1000) (.slice (some ⟨gc, 0, none⟩) 1 1) (.int .i64 0) (.int .i64 20) (.int .i64 0) (.int .i64 10) (.int .i64 0) (.int .i64 60) (.slice (some ⟨gd, 0, none⟩) 2 2)) hg) (Blk.gr (bd.far13 (Blk.ne_ bd br (by decide)) (.slice (some ⟨g4, 0, none⟩) 4 4) (.string ⟨#[99]⟩) (.slice none 0 0) (.slice (some ⟨g9, 0, none⟩) 2 2) (.int .i64 1000) (.slice (some ⟨gc, 0, none⟩) 1 1) (.int .i64 0) (.int .i64 20) (.int .i64 0) (.int .i64 10) (.int .i64 0) (.int .i64 60) (.slice (some ⟨gd, 0, none⟩) 2 2)) hg)) (Blk.gr (br.set13 (.slice (some ⟨g4, 0, none⟩) 4 4) (.string ⟨#[99]⟩) (.slice none 0 0) (.slice (some ⟨g9, 0, none⟩) 2 2) (.int .i64 1000) (.slice (some ⟨gc, 0, none⟩) 1 1) (.int .i64 0) (.int .i64 20) (.int .i64 0) (.int .i64 10) (.int .i64 0) (.int .i64 60) (.slice (some ⟨gd, 0, none⟩) 2 2)) hg) hS.1
      · refine wpOp_go (by rfl) (Eq.refl _) (by go_simp; done) ?_
        intro K hK
        go_simp
        try simp only [Act.put]
        have b9 := Blk.new w3 110 #[.int .i64 (weldLow 0), .int .i64 (weldLow 1), .int .i64 (weldLow 2), .int .i64 (weldLow 3), .int .i64 (weldLow 4), .int .i64 (weldLow 5), .int .i64 (weldLow 6), .int .i64 (weldLow 7), .int .i64 (weldLow 8), .int .i64 (weldLow 9), .int .i64 (weldLow 10), .int .i64 (weldLow 11), .int .i64 0, .int .i64 (weldTop 0), .int .i64 (weldTop 1), .int .i64 (weldTop 2), .int .i64 (weldTop 3), .int .i64 (weldTop 4), .int .i64 (weldTop 5), .int .i64 (weldTop 6), .int .i64 (weldTop 7), .int .i64 (weldTop 8), .int .i64 (weldTop 9), .int .i64 (weldTop 10), .int .i64 (weldTop 11), .int .i64 1]
        have hal : Gr w3 (w3.alloc (.cells #[.int .i64 (weldLow 0), .int .i64 (weldLow 1), .int .i64 (weldLow 2), .int .i64 (weldLow 3), .int .i64 (weldLow 4), .int .i64 (weldLow 5), .int .i64 (weldLow 6), .int .i64 (weldLow 7), .int .i64 (weldLow 8), .int .i64 (weldLow 9), .int .i64 (weldLow 10), .int .i64 (weldLow 11), .int .i64 0, .int .i64 (weldTop 0), .int .i64 (weldTop 1), .int .i64 (weldTop 2), .int .i64 (weldTop 3), .int .i64 (weldTop 4), .int .i64 (weldTop 5), .int .i64 (weldTop 6), .int .i64 (weldTop 7), .int .i64 (weldTop 8), .int .i64 (weldTop 9), .int .i64 (weldTop 10), .int .i64 (weldTop 11), .int .i64 1] 110)) := (Below.refl _ _).alloc (Nat.le_refl _) _
        replace z := And.intro (Below.trans z.1 (Below.mono hal (Below.size z.1))) (Blk.gr z.2 hal)
        replace br := Blk.gr br hal
        try replace b4 := Blk.gr b4 hal
        try replace bc := Blk.gr bc hal
        try replace bd := Blk.gr bd hal
        clear hal
        generalize w3.heap.size = g9 at *
        refine hK _ _ z ?_
        clear hK K
        refine wpW_det (t' := ?ct10R29) 10 (by rfl) (by kernel_rfl) (NQ_free _) (by kernel_rfl) ?cw10R29 ?ch10R29 ?ca10R29 (Eq.refl _) ?cH10R29
        case cw10R29 => (go_simp; done)
        case ch10R29 =>
          intro ds w' hS K hK
          go_simp
          try go_bits
          exact hK _ hS (Gr.refl _)
        case ca10R29 => (first | (simp [Act.put]; done) | (simp [Act.put, *]; done))
        try dsimp only
        refine wpW_branch [4] (by kernel_rfl) (by simp) ?_
        intro w4 hg4 hS4
        try clear z
        have z := hS4
        replace br := Blk.gr br hg4
        replace b9 := Blk.gr b9 hg4
        replace bc := Blk.gr bc hg4
        replace bd := Blk.gr bd hg4
        refine each_cons ?_ (each_nil)
        refine wpOp_go (by rfl) (Eq.refl _) (by go_simp; done) ?_
        intro K hK
        go_simp
        try simp only [Act.put]
        have b4 := Blk.new w4 57 #[.string ⟨#[97, 110, 110]⟩, .int .i64 1, .string ⟨#[98, 111, 98]⟩, .int .i64 2, .string ⟨#[99, 105, 100]⟩, .int .i64 2, .string ⟨#[100, 111, 114, 97]⟩, .int .i64 3]
        have hal : Gr w4 (w4.alloc (.cells #[.string ⟨#[97, 110, 110]⟩, .int .i64 1, .string ⟨#[98, 111, 98]⟩, .int .i64 2, .string ⟨#[99, 105, 100]⟩, .int .i64 2, .string ⟨#[100, 111, 114, 97]⟩, .int .i64 3] 57)) := (Below.refl _ _).alloc (Nat.le_refl _) _
        replace z := And.intro (Below.trans z.1 (Below.mono hal (Below.size z.1))) (Blk.gr z.2 hal)
        replace br := Blk.gr br hal
        try replace b9 := Blk.gr b9 hal
        try replace bc := Blk.gr bc hal
        try replace bd := Blk.gr bd hal
        clear hal
        generalize w4.heap.size = g4 at *
        refine hK _ _ z ?_
        clear hK K
        refine wpW_det (t' := ?ct18R30) 18 (by rfl) (by kernel_rfl) (NQ_free _) (by kernel_rfl) ?cw18R30 ?ch18R30 ?ca18R30 (Eq.refl _) ?cH18R30
        case cw18R30 => (go_simp; done)
        case ch18R30 =>
          intro ds w' hS K hK
          go_simp
          try go_bits
          exact hK _ hS (Gr.refl _)
        case ca18R30 => (first | (simp [Act.put]; done) | (simp [Act.put, *]; done))
        try dsimp only
        refine wpW_branch [19] (by kernel_rfl) (by simp) ?_
        intro wz hg_wz hS_wz
        replace br := Blk.gr br hg_wz
        replace b4 := Blk.gr b4 hg_wz
        replace b9 := Blk.gr b9 hg_wz
        replace bc := Blk.gr bc hg_wz
        replace bd := Blk.gr bd hg_wz
        obtain ⟨z0, z1, z2, z3, z4, z5, z6, z7, z8, z9, z10, z11, z12, zf⟩ := blk13 br
        have lr := br.lt
        refine each_cons ?_ each_nil
        refine wpOp_go (by rfl) (Eq.refl _) (by go_simp; done) ?_
        intro K hK
        go_simp
        try simp only [Act.put]
        refine hK _ _ (And.intro (Below.set13 hS_wz.1 HGR.out (.slice (some ⟨g4, 0, none⟩) 4 4) (.string ⟨#[99]⟩) (.slice none 0 0) (.slice (some ⟨g9, 0, none⟩) 2 2) (.int .i64 1000) (.slice (some ⟨gc, 0, none⟩) 1 1) (.int .i64 0) (.int .i64 20) (.int .i64 0) (.int .i64 10) (.int .i64 0) (.int .i64 60) (.slice (some ⟨gd, 0, none⟩) 2 2)) (Blk.far13 hS_wz.2 (Blk.ne_ hS_wz.2 br (by decide)) (.slice (some ⟨g4, 0, none⟩) 4 4) (.string ⟨#[99]⟩) (.slice none 0 0) (.slice (some ⟨g9, 0, none⟩) 2 2) (.int .i64 1000) (.slice (some ⟨gc, 0, none⟩) 1 1) (.int .i64 0) (.int .i64 20) (.int .i64 0) (.int .i64 10) (.int .i64 0) (.int .i64 60) (.slice (some ⟨gd, 0, none⟩) 2 2))) ?_
        clear hK K z0 z1 z2 z3 z4 z5 z6 z7 z8 z9 z10 z11 z12 zf lr
        refine wpW_end (by kernel_rfl) ?_
        intro we hg hS
        unfold NQ
        dsimp only
        exact H.out _ _ _ _ _ _ _ _ _ _ _ _ _ _ _ _ _ _ _ _ we (HOK.out (Blk.gr (b4.far13 (Blk.ne_ b4 br (by decide)) (.slice (some ⟨g4, 0, none⟩) 4 4) (.string ⟨#[99]⟩) (.slice none 0 0) (.slice (some ⟨g9, 0, none⟩) 2 2) (.int .i64 1000) (.slice (some ⟨gc, 0, none⟩) 1 1) (.int .i64 0) (.int .i64 20) (.int .i64 0) (.int .i64 10) (.int .i64 0) (.int .i64 60) (.slice (some ⟨gd, 0, none⟩) 2 2)) hg) (Blk.gr (b9.far13 (Blk.ne_ b9 br (by decide)) (.slice (some ⟨g4, 0, none⟩) 4 4) (.string ⟨#[99]⟩) (.slice none 0 0) (.slice (some ⟨g9, 0, none⟩) 2 2) (.int .i64 1000) (.slice (some ⟨gc, 0, none⟩) 1 1) (.int .i64 0) (.int .i64 20) (.int .i64 0) (.int .i64 10) (.int .i64 0) (.int .i64 60) (.slice (some ⟨gd, 0, none⟩) 2 2)) hg) (Blk.gr (bc.far13 (Blk.ne_ bc br (by decide)) (.slice (some ⟨g4, 0, none⟩) 4 4) (.string ⟨#[99]⟩) (.slice none 0 0) (.slice (some ⟨g9, 0, none⟩) 2 2) (.int .i64 1000) (.slice (some ⟨gc, 0, none⟩) 1 1) (.int .i64 0) (.int .i64 20) (.int .i64 0) (.int .i64 10) (.int .i64 0) (.int .i64 60) (.slice (some ⟨gd, 0, none⟩) 2 2)) hg) (Blk.gr (bd.far13 (Blk.ne_ bd br (by decide)) (.slice (some ⟨g4, 0, none⟩) 4 4) (.string ⟨#[99]⟩) (.slice none 0 0) (.slice (some ⟨g9, 0, none⟩) 2 2) (.int .i64 1000) (.slice (some ⟨gc, 0, none⟩) 1 1) (.int .i64 0) (.int .i64 20) (.int .i64 0) (.int .i64 10) (.int .i64 0) (.int .i64 60) (.slice (some ⟨gd, 0, none⟩) 2 2)) hg)) (Blk.gr (br.set13 (.slice (some ⟨g4, 0, none⟩) 4 4) (.string ⟨#[99]⟩) (.slice none 0 0) (.slice (some ⟨g9, 0, none⟩) 2 2) (.int .i64 1000) (.slice (some ⟨gc, 0, none⟩) 1 1) (.int .i64 0) (.int .i64 20) (.int .i64 0) (.int .i64 10) (.int .i64 0) (.int .i64 60) (.slice (some ⟨gd, 0, none⟩) 2 2)) hg) hS.1
  · refine wpOp_go (by rfl) (Eq.refl _) (by go_simp; done) ?_
    intro K hK
    go_simp
    try simp only [Act.put]
    have bd := Blk.new w1 75 #[.int .i64 100, .int .i64 5, .int .i64 900, .int .i64 12]
    have hal : Gr w1 (w1.alloc (.cells #[.int .i64 100, .int .i64 5, .int .i64 900, .int .i64 12] 75)) := (Below.refl _ _).alloc (Nat.le_refl _) _
    replace z := And.intro (Below.trans z.1 (Below.mono hal (Below.size z.1))) (Blk.gr z.2 hal)
    replace br := Blk.gr br hal
    try replace b4 := Blk.gr b4 hal
    try replace b9 := Blk.gr b9 hal
    try replace bc := Blk.gr bc hal
    clear hal
    generalize w1.heap.size = gd at *
    refine hK _ _ z ?_
    clear hK K
    refine wpW_branch [4, 9, 12] (by kernel_rfl) (by simp) ?_
    intro w2 hg2 hS2
    try clear z
    have z := hS2
    replace br := Blk.gr br hg2
    replace bd := Blk.gr bd hg2
    refine each_cons ?_ (each_cons ?_ (each_cons ?_ (each_nil)))
    · refine wpOp_go (by rfl) (Eq.refl _) (by go_simp; done) ?_
      intro K hK
      go_simp
      try simp only [Act.put]
      have b4 := Blk.new w2 57 #[.string ⟨#[97, 110, 110]⟩, .int .i64 1, .string ⟨#[98, 111, 98]⟩, .int .i64 2, .string ⟨#[99, 105, 100]⟩, .int .i64 2, .string ⟨#[100, 111, 114, 97]⟩, .int .i64 3]
      have hal : Gr w2 (w2.alloc (.cells #[.string ⟨#[97, 110, 110]⟩, .int .i64 1, .string ⟨#[98, 111, 98]⟩, .int .i64 2, .string ⟨#[99, 105, 100]⟩, .int .i64 2, .string ⟨#[100, 111, 114, 97]⟩, .int .i64 3] 57)) := (Below.refl _ _).alloc (Nat.le_refl _) _
      replace z := And.intro (Below.trans z.1 (Below.mono hal (Below.size z.1))) (Blk.gr z.2 hal)
      replace br := Blk.gr br hal
      try replace b9 := Blk.gr b9 hal
      try replace bc := Blk.gr bc hal
      try replace bd := Blk.gr bd hal
      clear hal
      generalize w2.heap.size = g4 at *
      refine hK _ _ z ?_
      clear hK K
      refine wpW_branch [9, 12] (by kernel_rfl) (by simp) ?_
      intro w3 hg3 hS3
      try clear z
      have z := hS3
      replace br := Blk.gr br hg3
      replace b4 := Blk.gr b4 hg3
      replace bd := Blk.gr bd hg3
      refine each_cons ?_ (each_cons ?_ (each_nil))
      · refine wpOp_go (by rfl) (Eq.refl _) (by go_simp; done) ?_
        intro K hK
        go_simp
        try simp only [Act.put]
        have b9 := Blk.new w3 110 #[.int .i64 (weldLow 0), .int .i64 (weldLow 1), .int .i64 (weldLow 2), .int .i64 (weldLow 3), .int .i64 (weldLow 4), .int .i64 (weldLow 5), .int .i64 (weldLow 6), .int .i64 (weldLow 7), .int .i64 (weldLow 8), .int .i64 (weldLow 9), .int .i64 (weldLow 10), .int .i64 (weldLow 11), .int .i64 0, .int .i64 (weldTop 0), .int .i64 (weldTop 1), .int .i64 (weldTop 2), .int .i64 (weldTop 3), .int .i64 (weldTop 4), .int .i64 (weldTop 5), .int .i64 (weldTop 6), .int .i64 (weldTop 7), .int .i64 (weldTop 8), .int .i64 (weldTop 9), .int .i64 (weldTop 10), .int .i64 (weldTop 11), .int .i64 1]
        have hal : Gr w3 (w3.alloc (.cells #[.int .i64 (weldLow 0), .int .i64 (weldLow 1), .int .i64 (weldLow 2), .int .i64 (weldLow 3), .int .i64 (weldLow 4), .int .i64 (weldLow 5), .int .i64 (weldLow 6), .int .i64 (weldLow 7), .int .i64 (weldLow 8), .int .i64 (weldLow 9), .int .i64 (weldLow 10), .int .i64 (weldLow 11), .int .i64 0, .int .i64 (weldTop 0), .int .i64 (weldTop 1), .int .i64 (weldTop 2), .int .i64 (weldTop 3), .int .i64 (weldTop 4), .int .i64 (weldTop 5), .int .i64 (weldTop 6), .int .i64 (weldTop 7), .int .i64 (weldTop 8), .int .i64 (weldTop 9), .int .i64 (weldTop 10), .int .i64 (weldTop 11), .int .i64 1] 110)) := (Below.refl _ _).alloc (Nat.le_refl _) _
        replace z := And.intro (Below.trans z.1 (Below.mono hal (Below.size z.1))) (Blk.gr z.2 hal)
        replace br := Blk.gr br hal
        try replace b4 := Blk.gr b4 hal
        try replace bc := Blk.gr bc hal
        try replace bd := Blk.gr bd hal
        clear hal
        generalize w3.heap.size = g9 at *
        refine hK _ _ z ?_
        clear hK K
        refine wpW_det (t' := ?ct10R31) 10 (by rfl) (by kernel_rfl) (NQ_free _) (by kernel_rfl) ?cw10R31 ?ch10R31 ?ca10R31 (Eq.refl _) ?cH10R31
        case cw10R31 => (go_simp; done)
        case ch10R31 =>
          intro ds w' hS K hK
          go_simp
          try go_bits
          exact hK _ hS (Gr.refl _)
        case ca10R31 => (first | (simp [Act.put]; done) | (simp [Act.put, *]; done))
        try dsimp only
        refine wpW_branch [12] (by kernel_rfl) (by simp) ?_
        intro w4 hg4 hS4
        try clear z
        have z := hS4
        replace br := Blk.gr br hg4
        replace b4 := Blk.gr b4 hg4
        replace b9 := Blk.gr b9 hg4
        replace bd := Blk.gr bd hg4
        refine each_cons ?_ (each_nil)
        refine wpOp_go (by rfl) (Eq.refl _) (by go_simp; done) ?_
        intro K hK
        go_simp
        try simp only [Act.put]
        have bc := Blk.new w4 60 #[.string ⟨#[103, 97, 105, 110]⟩, .int .i64 100, .int .i64 50, .slice none 0 0]
        have hal : Gr w4 (w4.alloc (.cells #[.string ⟨#[103, 97, 105, 110]⟩, .int .i64 100, .int .i64 50, .slice none 0 0] 60)) := (Below.refl _ _).alloc (Nat.le_refl _) _
        replace z := And.intro (Below.trans z.1 (Below.mono hal (Below.size z.1))) (Blk.gr z.2 hal)
        replace br := Blk.gr br hal
        try replace b4 := Blk.gr b4 hal
        try replace b9 := Blk.gr b9 hal
        try replace bd := Blk.gr bd hal
        clear hal
        generalize w4.heap.size = gc at *
        refine hK _ _ z ?_
        clear hK K
        refine wpW_det (t' := ?ct18R32) 18 (by rfl) (by kernel_rfl) (NQ_free _) (by kernel_rfl) ?cw18R32 ?ch18R32 ?ca18R32 (Eq.refl _) ?cH18R32
        case cw18R32 => (go_simp; done)
        case ch18R32 =>
          intro ds w' hS K hK
          go_simp
          try go_bits
          exact hK _ hS (Gr.refl _)
        case ca18R32 => (first | (simp [Act.put]; done) | (simp [Act.put, *]; done))
        try dsimp only
        refine wpW_branch [19] (by kernel_rfl) (by simp) ?_
        intro wz hg_wz hS_wz
        replace br := Blk.gr br hg_wz
        replace b4 := Blk.gr b4 hg_wz
        replace b9 := Blk.gr b9 hg_wz
        replace bc := Blk.gr bc hg_wz
        replace bd := Blk.gr bd hg_wz
        obtain ⟨z0, z1, z2, z3, z4, z5, z6, z7, z8, z9, z10, z11, z12, zf⟩ := blk13 br
        have lr := br.lt
        refine each_cons ?_ each_nil
        refine wpOp_go (by rfl) (Eq.refl _) (by go_simp; done) ?_
        intro K hK
        go_simp
        try simp only [Act.put]
        refine hK _ _ (And.intro (Below.set13 hS_wz.1 HGR.out (.slice (some ⟨g4, 0, none⟩) 4 4) (.string ⟨#[99]⟩) (.slice none 0 0) (.slice (some ⟨g9, 0, none⟩) 2 2) (.int .i64 1000) (.slice (some ⟨gc, 0, none⟩) 1 1) (.int .i64 0) (.int .i64 20) (.int .i64 0) (.int .i64 10) (.int .i64 0) (.int .i64 60) (.slice (some ⟨gd, 0, none⟩) 2 2)) (Blk.far13 hS_wz.2 (Blk.ne_ hS_wz.2 br (by decide)) (.slice (some ⟨g4, 0, none⟩) 4 4) (.string ⟨#[99]⟩) (.slice none 0 0) (.slice (some ⟨g9, 0, none⟩) 2 2) (.int .i64 1000) (.slice (some ⟨gc, 0, none⟩) 1 1) (.int .i64 0) (.int .i64 20) (.int .i64 0) (.int .i64 10) (.int .i64 0) (.int .i64 60) (.slice (some ⟨gd, 0, none⟩) 2 2))) ?_
        clear hK K z0 z1 z2 z3 z4 z5 z6 z7 z8 z9 z10 z11 z12 zf lr
        refine wpW_end (by kernel_rfl) ?_
        intro we hg hS
        unfold NQ
        dsimp only
        exact H.out _ _ _ _ _ _ _ _ _ _ _ _ _ _ _ _ _ _ _ _ we (HOK.out (Blk.gr (b4.far13 (Blk.ne_ b4 br (by decide)) (.slice (some ⟨g4, 0, none⟩) 4 4) (.string ⟨#[99]⟩) (.slice none 0 0) (.slice (some ⟨g9, 0, none⟩) 2 2) (.int .i64 1000) (.slice (some ⟨gc, 0, none⟩) 1 1) (.int .i64 0) (.int .i64 20) (.int .i64 0) (.int .i64 10) (.int .i64 0) (.int .i64 60) (.slice (some ⟨gd, 0, none⟩) 2 2)) hg) (Blk.gr (b9.far13 (Blk.ne_ b9 br (by decide)) (.slice (some ⟨g4, 0, none⟩) 4 4) (.string ⟨#[99]⟩) (.slice none 0 0) (.slice (some ⟨g9, 0, none⟩) 2 2) (.int .i64 1000) (.slice (some ⟨gc, 0, none⟩) 1 1) (.int .i64 0) (.int .i64 20) (.int .i64 0) (.int .i64 10) (.int .i64 0) (.int .i64 60) (.slice (some ⟨gd, 0, none⟩) 2 2)) hg) (Blk.gr (bc.far13 (Blk.ne_ bc br (by decide)) (.slice (some ⟨g4, 0, none⟩) 4 4) (.string ⟨#[99]⟩) (.slice none 0 0) (.slice (some ⟨g9, 0, none⟩) 2 2) (.int .i64 1000) (.slice (some ⟨gc, 0, none⟩) 1 1) (.int .i64 0) (.int .i64 20) (.int .i64 0) (.int .i64 10) (.int .i64 0) (.int .i64 60) (.slice (some ⟨gd, 0, none⟩) 2 2)) hg) (Blk.gr (bd.far13 (Blk.ne_ bd br (by decide)) (.slice (some ⟨g4, 0, none⟩) 4 4) (.string ⟨#[99]⟩) (.slice none 0 0) (.slice (some ⟨g9, 0, none⟩) 2 2) (.int .i64 1000) (.slice (some ⟨gc, 0, none⟩) 1 1) (.int .i64 0) (.int .i64 20) (.int .i64 0) (.int .i64 10) (.int .i64 0) (.int .i64 60) (.slice (some ⟨gd, 0, none⟩) 2 2)) hg)) (Blk.gr (br.set13 (.slice (some ⟨g4, 0, none⟩) 4 4) (.string ⟨#[99]⟩) (.slice none 0 0) (.slice (some ⟨g9, 0, none⟩) 2 2) (.int .i64 1000) (.slice (some ⟨gc, 0, none⟩) 1 1) (.int .i64 0) (.int .i64 20) (.int .i64 0) (.int .i64 10) (.int .i64 0) (.int .i64 60) (.slice (some ⟨gd, 0, none⟩) 2 2)) hg) hS.1
      · refine wpOp_go (by rfl) (Eq.refl _) (by go_simp; done) ?_
        intro K hK
        go_simp
        try simp only [Act.put]
        have bc := Blk.new w3 60 #[.string ⟨#[103, 97, 105, 110]⟩, .int .i64 100, .int .i64 50, .slice none 0 0]
        have hal : Gr w3 (w3.alloc (.cells #[.string ⟨#[103, 97, 105, 110]⟩, .int .i64 100, .int .i64 50, .slice none 0 0] 60)) := (Below.refl _ _).alloc (Nat.le_refl _) _
        replace z := And.intro (Below.trans z.1 (Below.mono hal (Below.size z.1))) (Blk.gr z.2 hal)
        replace br := Blk.gr br hal
        try replace b4 := Blk.gr b4 hal
        try replace b9 := Blk.gr b9 hal
        try replace bd := Blk.gr bd hal
        clear hal
        generalize w3.heap.size = gc at *
        refine hK _ _ z ?_
        clear hK K
        refine wpW_branch [9] (by kernel_rfl) (by simp) ?_
        intro w4 hg4 hS4
        try clear z
        have z := hS4
        replace br := Blk.gr br hg4
        replace b4 := Blk.gr b4 hg4
        replace bc := Blk.gr bc hg4
        replace bd := Blk.gr bd hg4
        refine each_cons ?_ (each_nil)
        refine wpOp_go (by rfl) (Eq.refl _) (by go_simp; done) ?_
        intro K hK
        go_simp
        try simp only [Act.put]
        have b9 := Blk.new w4 110 #[.int .i64 (weldLow 0), .int .i64 (weldLow 1), .int .i64 (weldLow 2), .int .i64 (weldLow 3), .int .i64 (weldLow 4), .int .i64 (weldLow 5), .int .i64 (weldLow 6), .int .i64 (weldLow 7), .int .i64 (weldLow 8), .int .i64 (weldLow 9), .int .i64 (weldLow 10), .int .i64 (weldLow 11), .int .i64 0, .int .i64 (weldTop 0), .int .i64 (weldTop 1), .int .i64 (weldTop 2), .int .i64 (weldTop 3), .int .i64 (weldTop 4), .int .i64 (weldTop 5), .int .i64 (weldTop 6), .int .i64 (weldTop 7), .int .i64 (weldTop 8), .int .i64 (weldTop 9), .int .i64 (weldTop 10), .int .i64 (weldTop 11), .int .i64 1]
        have hal : Gr w4 (w4.alloc (.cells #[.int .i64 (weldLow 0), .int .i64 (weldLow 1), .int .i64 (weldLow 2), .int .i64 (weldLow 3), .int .i64 (weldLow 4), .int .i64 (weldLow 5), .int .i64 (weldLow 6), .int .i64 (weldLow 7), .int .i64 (weldLow 8), .int .i64 (weldLow 9), .int .i64 (weldLow 10), .int .i64 (weldLow 11), .int .i64 0, .int .i64 (weldTop 0), .int .i64 (weldTop 1), .int .i64 (weldTop 2), .int .i64 (weldTop 3), .int .i64 (weldTop 4), .int .i64 (weldTop 5), .int .i64 (weldTop 6), .int .i64 (weldTop 7), .int .i64 (weldTop 8), .int .i64 (weldTop 9), .int .i64 (weldTop 10), .int .i64 (weldTop 11), .int .i64 1] 110)) := (Below.refl _ _).alloc (Nat.le_refl _) _
        replace z := And.intro (Below.trans z.1 (Below.mono hal (Below.size z.1))) (Blk.gr z.2 hal)
        replace br := Blk.gr br hal
        try replace b4 := Blk.gr b4 hal
        try replace bc := Blk.gr bc hal
        try replace bd := Blk.gr bd hal
        clear hal
        generalize w4.heap.size = g9 at *
        refine hK _ _ z ?_
        clear hK K
        refine wpW_det (t' := ?ct10R33) 10 (by rfl) (by kernel_rfl) (NQ_free _) (by kernel_rfl) ?cw10R33 ?ch10R33 ?ca10R33 (Eq.refl _) ?cH10R33
        case cw10R33 => (go_simp; done)
        case ch10R33 =>
          intro ds w' hS K hK
          go_simp
          try go_bits
          exact hK _ hS (Gr.refl _)
        case ca10R33 => (first | (simp [Act.put]; done) | (simp [Act.put, *]; done))
        try dsimp only
        refine wpW_det (t' := ?ct18R34) 18 (by rfl) (by kernel_rfl) (NQ_free _) (by kernel_rfl) ?cw18R34 ?ch18R34 ?ca18R34 (Eq.refl _) ?cH18R34
        case cw18R34 => (go_simp; done)
        case ch18R34 =>
          intro ds w' hS K hK
          go_simp
          try go_bits
          exact hK _ hS (Gr.refl _)
        case ca18R34 => (first | (simp [Act.put]; done) | (simp [Act.put, *]; done))
        try dsimp only
        refine wpW_branch [19] (by kernel_rfl) (by simp) ?_
        intro wz hg_wz hS_wz
        replace br := Blk.gr br hg_wz
        replace b4 := Blk.gr b4 hg_wz
        replace b9 := Blk.gr b9 hg_wz
        replace bc := Blk.gr bc hg_wz
        replace bd := Blk.gr bd hg_wz
        obtain ⟨z0, z1, z2, z3, z4, z5, z6, z7, z8, z9, z10, z11, z12, zf⟩ := blk13 br
        have lr := br.lt
        refine each_cons ?_ each_nil
        refine wpOp_go (by rfl) (Eq.refl _) (by go_simp; done) ?_
        intro K hK
        go_simp
        try simp only [Act.put]
        refine hK _ _ (And.intro (Below.set13 hS_wz.1 HGR.out (.slice (some ⟨g4, 0, none⟩) 4 4) (.string ⟨#[99]⟩) (.slice none 0 0) (.slice (some ⟨g9, 0, none⟩) 2 2) (.int .i64 1000) (.slice (some ⟨gc, 0, none⟩) 1 1) (.int .i64 0) (.int .i64 20) (.int .i64 0) (.int .i64 10) (.int .i64 0) (.int .i64 60) (.slice (some ⟨gd, 0, none⟩) 2 2)) (Blk.far13 hS_wz.2 (Blk.ne_ hS_wz.2 br (by decide)) (.slice (some ⟨g4, 0, none⟩) 4 4) (.string ⟨#[99]⟩) (.slice none 0 0) (.slice (some ⟨g9, 0, none⟩) 2 2) (.int .i64 1000) (.slice (some ⟨gc, 0, none⟩) 1 1) (.int .i64 0) (.int .i64 20) (.int .i64 0) (.int .i64 10) (.int .i64 0) (.int .i64 60) (.slice (some ⟨gd, 0, none⟩) 2 2))) ?_
        clear hK K z0 z1 z2 z3 z4 z5 z6 z7 z8 z9 z10 z11 z12 zf lr
        refine wpW_end (by kernel_rfl) ?_
        intro we hg hS
        unfold NQ
        dsimp only
        exact H.out _ _ _ _ _ _ _ _ _ _ _ _ _ _ _ _ _ _ _ _ we (HOK.out (Blk.gr (b4.far13 (Blk.ne_ b4 br (by decide)) (.slice (some ⟨g4, 0, none⟩) 4 4) (.string ⟨#[99]⟩) (.slice none 0 0) (.slice (some ⟨g9, 0, none⟩) 2 2) (.int .i64 1000) (.slice (some ⟨gc, 0, none⟩) 1 1) (.int .i64 0) (.int .i64 20) (.int .i64 0) (.int .i64 10) (.int .i64 0) (.int .i64 60) (.slice (some ⟨gd, 0, none⟩) 2 2)) hg) (Blk.gr (b9.far13 (Blk.ne_ b9 br (by decide)) (.slice (some ⟨g4, 0, none⟩) 4 4) (.string ⟨#[99]⟩) (.slice none 0 0) (.slice (some ⟨g9, 0, none⟩) 2 2) (.int .i64 1000) (.slice (some ⟨gc, 0, none⟩) 1 1) (.int .i64 0) (.int .i64 20) (.int .i64 0) (.int .i64 10) (.int .i64 0) (.int .i64 60) (.slice (some ⟨gd, 0, none⟩) 2 2)) hg) (Blk.gr (bc.far13 (Blk.ne_ bc br (by decide)) (.slice (some ⟨g4, 0, none⟩) 4 4) (.string ⟨#[99]⟩) (.slice none 0 0) (.slice (some ⟨g9, 0, none⟩) 2 2) (.int .i64 1000) (.slice (some ⟨gc, 0, none⟩) 1 1) (.int .i64 0) (.int .i64 20) (.int .i64 0) (.int .i64 10) (.int .i64 0) (.int .i64 60) (.slice (some ⟨gd, 0, none⟩) 2 2)) hg) (Blk.gr (bd.far13 (Blk.ne_ bd br (by decide)) (.slice (some ⟨g4, 0, none⟩) 4 4) (.string ⟨#[99]⟩) (.slice none 0 0) (.slice (some ⟨g9, 0, none⟩) 2 2) (.int .i64 1000) (.slice (some ⟨gc, 0, none⟩) 1 1) (.int .i64 0) (.int .i64 20) (.int .i64 0) (.int .i64 10) (.int .i64 0) (.int .i64 60) (.slice (some ⟨gd, 0, none⟩) 2 2)) hg)) (Blk.gr (br.set13 (.slice (some ⟨g4, 0, none⟩) 4 4) (.string ⟨#[99]⟩) (.slice none 0 0) (.slice (some ⟨g9, 0, none⟩) 2 2) (.int .i64 1000) (.slice (some ⟨gc, 0, none⟩) 1 1) (.int .i64 0) (.int .i64 20) (.int .i64 0) (.int .i64 10) (.int .i64 0) (.int .i64 60) (.slice (some ⟨gd, 0, none⟩) 2 2)) hg) hS.1
    · refine wpOp_go (by rfl) (Eq.refl _) (by go_simp; done) ?_
      intro K hK
      go_simp
      try simp only [Act.put]
      have b9 := Blk.new w2 110 #[.int .i64 (weldLow 0), .int .i64 (weldLow 1), .int .i64 (weldLow 2), .int .i64 (weldLow 3), .int .i64 (weldLow 4), .int .i64 (weldLow 5), .int .i64 (weldLow 6), .int .i64 (weldLow 7), .int .i64 (weldLow 8), .int .i64 (weldLow 9), .int .i64 (weldLow 10), .int .i64 (weldLow 11), .int .i64 0, .int .i64 (weldTop 0), .int .i64 (weldTop 1), .int .i64 (weldTop 2), .int .i64 (weldTop 3), .int .i64 (weldTop 4), .int .i64 (weldTop 5), .int .i64 (weldTop 6), .int .i64 (weldTop 7), .int .i64 (weldTop 8), .int .i64 (weldTop 9), .int .i64 (weldTop 10), .int .i64 (weldTop 11), .int .i64 1]
      have hal : Gr w2 (w2.alloc (.cells #[.int .i64 (weldLow 0), .int .i64 (weldLow 1), .int .i64 (weldLow 2), .int .i64 (weldLow 3), .int .i64 (weldLow 4), .int .i64 (weldLow 5), .int .i64 (weldLow 6), .int .i64 (weldLow 7), .int .i64 (weldLow 8), .int .i64 (weldLow 9), .int .i64 (weldLow 10), .int .i64 (weldLow 11), .int .i64 0, .int .i64 (weldTop 0), .int .i64 (weldTop 1), .int .i64 (weldTop 2), .int .i64 (weldTop 3), .int .i64 (weldTop 4), .int .i64 (weldTop 5), .int .i64 (weldTop 6), .int .i64 (weldTop 7), .int .i64 (weldTop 8), .int .i64 (weldTop 9), .int .i64 (weldTop 10), .int .i64 (weldTop 11), .int .i64 1] 110)) := (Below.refl _ _).alloc (Nat.le_refl _) _
      replace z := And.intro (Below.trans z.1 (Below.mono hal (Below.size z.1))) (Blk.gr z.2 hal)
      replace br := Blk.gr br hal
      try replace b4 := Blk.gr b4 hal
      try replace bc := Blk.gr bc hal
      try replace bd := Blk.gr bd hal
      clear hal
      generalize w2.heap.size = g9 at *
      refine hK _ _ z ?_
      clear hK K
      refine wpW_det (t' := ?ct10R35) 10 (by rfl) (by kernel_rfl) (NQ_free _) (by kernel_rfl) ?cw10R35 ?ch10R35 ?ca10R35 (Eq.refl _) ?cH10R35
      case cw10R35 => (go_simp; done)
      case ch10R35 =>
        intro ds w' hS K hK
        go_simp
        try go_bits
        exact hK _ hS (Gr.refl _)
      case ca10R35 => (first | (simp [Act.put]; done) | (simp [Act.put, *]; done))
      try dsimp only
      refine wpW_branch [4, 12] (by kernel_rfl) (by simp) ?_
      intro w3 hg3 hS3
      try clear z
      have z := hS3
      replace br := Blk.gr br hg3
      replace b9 := Blk.gr b9 hg3
      replace bd := Blk.gr bd hg3
      refine each_cons ?_ (each_cons ?_ (each_nil))
      · refine wpOp_go (by rfl) (Eq.refl _) (by go_simp; done) ?_
        intro K hK
        go_simp
        try simp only [Act.put]
        have b4 := Blk.new w3 57 #[.string ⟨#[97, 110, 110]⟩, .int .i64 1, .string ⟨#[98, 111, 98]⟩, .int .i64 2, .string ⟨#[99, 105, 100]⟩, .int .i64 2, .string ⟨#[100, 111, 114, 97]⟩, .int .i64 3]
        have hal : Gr w3 (w3.alloc (.cells #[.string ⟨#[97, 110, 110]⟩, .int .i64 1, .string ⟨#[98, 111, 98]⟩, .int .i64 2, .string ⟨#[99, 105, 100]⟩, .int .i64 2, .string ⟨#[100, 111, 114, 97]⟩, .int .i64 3] 57)) := (Below.refl _ _).alloc (Nat.le_refl _) _
        replace z := And.intro (Below.trans z.1 (Below.mono hal (Below.size z.1))) (Blk.gr z.2 hal)
        replace br := Blk.gr br hal
        try replace b9 := Blk.gr b9 hal
        try replace bc := Blk.gr bc hal
        try replace bd := Blk.gr bd hal
        clear hal
        generalize w3.heap.size = g4 at *
        refine hK _ _ z ?_
        clear hK K
        refine wpW_branch [12] (by kernel_rfl) (by simp) ?_
        intro w4 hg4 hS4
        try clear z
        have z := hS4
        replace br := Blk.gr br hg4
        replace b4 := Blk.gr b4 hg4
        replace b9 := Blk.gr b9 hg4
        replace bd := Blk.gr bd hg4
        refine each_cons ?_ (each_nil)
        refine wpOp_go (by rfl) (Eq.refl _) (by go_simp; done) ?_
        intro K hK
        go_simp
        try simp only [Act.put]
        have bc := Blk.new w4 60 #[.string ⟨#[103, 97, 105, 110]⟩, .int .i64 100, .int .i64 50, .slice none 0 0]
        have hal : Gr w4 (w4.alloc (.cells #[.string ⟨#[103, 97, 105, 110]⟩, .int .i64 100, .int .i64 50, .slice none 0 0] 60)) := (Below.refl _ _).alloc (Nat.le_refl _) _
        replace z := And.intro (Below.trans z.1 (Below.mono hal (Below.size z.1))) (Blk.gr z.2 hal)
        replace br := Blk.gr br hal
        try replace b4 := Blk.gr b4 hal
        try replace b9 := Blk.gr b9 hal
        try replace bd := Blk.gr bd hal
        clear hal
        generalize w4.heap.size = gc at *
        refine hK _ _ z ?_
        clear hK K
        refine wpW_det (t' := ?ct18R36) 18 (by rfl) (by kernel_rfl) (NQ_free _) (by kernel_rfl) ?cw18R36 ?ch18R36 ?ca18R36 (Eq.refl _) ?cH18R36
        case cw18R36 => (go_simp; done)
        case ch18R36 =>
          intro ds w' hS K hK
          go_simp
          try go_bits
          exact hK _ hS (Gr.refl _)
        case ca18R36 => (first | (simp [Act.put]; done) | (simp [Act.put, *]; done))
        try dsimp only
        refine wpW_branch [19] (by kernel_rfl) (by simp) ?_
        intro wz hg_wz hS_wz
        replace br := Blk.gr br hg_wz
        replace b4 := Blk.gr b4 hg_wz
        replace b9 := Blk.gr b9 hg_wz
        replace bc := Blk.gr bc hg_wz
        replace bd := Blk.gr bd hg_wz
        obtain ⟨z0, z1, z2, z3, z4, z5, z6, z7, z8, z9, z10, z11, z12, zf⟩ := blk13 br
        have lr := br.lt
        refine each_cons ?_ each_nil
        refine wpOp_go (by rfl) (Eq.refl _) (by go_simp; done) ?_
        intro K hK
        go_simp
        try simp only [Act.put]
        refine hK _ _ (And.intro (Below.set13 hS_wz.1 HGR.out (.slice (some ⟨g4, 0, none⟩) 4 4) (.string ⟨#[99]⟩) (.slice none 0 0) (.slice (some ⟨g9, 0, none⟩) 2 2) (.int .i64 1000) (.slice (some ⟨gc, 0, none⟩) 1 1) (.int .i64 0) (.int .i64 20) (.int .i64 0) (.int .i64 10) (.int .i64 0) (.int .i64 60) (.slice (some ⟨gd, 0, none⟩) 2 2)) (Blk.far13 hS_wz.2 (Blk.ne_ hS_wz.2 br (by decide)) (.slice (some ⟨g4, 0, none⟩) 4 4) (.string ⟨#[99]⟩) (.slice none 0 0) (.slice (some ⟨g9, 0, none⟩) 2 2) (.int .i64 1000) (.slice (some ⟨gc, 0, none⟩) 1 1) (.int .i64 0) (.int .i64 20) (.int .i64 0) (.int .i64 10) (.int .i64 0) (.int .i64 60) (.slice (some ⟨gd, 0, none⟩) 2 2))) ?_
        clear hK K z0 z1 z2 z3 z4 z5 z6 z7 z8 z9 z10 z11 z12 zf lr
        refine wpW_end (by kernel_rfl) ?_
        intro we hg hS
        unfold NQ
        dsimp only
        exact H.out _ _ _ _ _ _ _ _ _ _ _ _ _ _ _ _ _ _ _ _ we (HOK.out (Blk.gr (b4.far13 (Blk.ne_ b4 br (by decide)) (.slice (some ⟨g4, 0, none⟩) 4 4) (.string ⟨#[99]⟩) (.slice none 0 0) (.slice (some ⟨g9, 0, none⟩) 2 2) (.int .i64 1000) (.slice (some ⟨gc, 0, none⟩) 1 1) (.int .i64 0) (.int .i64 20) (.int .i64 0) (.int .i64 10) (.int .i64 0) (.int .i64 60) (.slice (some ⟨gd, 0, none⟩) 2 2)) hg) (Blk.gr (b9.far13 (Blk.ne_ b9 br (by decide)) (.slice (some ⟨g4, 0, none⟩) 4 4) (.string ⟨#[99]⟩) (.slice none 0 0) (.slice (some ⟨g9, 0, none⟩) 2 2) (.int .i64 1000) (.slice (some ⟨gc, 0, none⟩) 1 1) (.int .i64 0) (.int .i64 20) (.int .i64 0) (.int .i64 10) (.int .i64 0) (.int .i64 60) (.slice (some ⟨gd, 0, none⟩) 2 2)) hg) (Blk.gr (bc.far13 (Blk.ne_ bc br (by decide)) (.slice (some ⟨g4, 0, none⟩) 4 4) (.string ⟨#[99]⟩) (.slice none 0 0) (.slice (some ⟨g9, 0, none⟩) 2 2) (.int .i64 1000) (.slice (some ⟨gc, 0, none⟩) 1 1) (.int .i64 0) (.int .i64 20) (.int .i64 0) (.int .i64 10) (.int .i64 0) (.int .i64 60) (.slice (some ⟨gd, 0, none⟩) 2 2)) hg) (Blk.gr (bd.far13 (Blk.ne_ bd br (by decide)) (.slice (some ⟨g4, 0, none⟩) 4 4) (.string ⟨#[99]⟩) (.slice none 0 0) (.slice (some ⟨g9, 0, none⟩) 2 2) (.int .i64 1000) (.slice (some ⟨gc, 0, none⟩) 1 1) (.int .i64 0) (.int .i64 20) (.int .i64 0) (.int .i64 10) (.int .i64 0) (.int .i64 60) (.slice (some ⟨gd, 0, none⟩) 2 2)) hg)) (Blk.gr (br.set13 (.slice (some ⟨g4, 0, none⟩) 4 4) (.string ⟨#[99]⟩) (.slice none 0 0) (.slice (some ⟨g9, 0, none⟩) 2 2) (.int .i64 1000) (.slice (some ⟨gc, 0, none⟩) 1 1) (.int .i64 0) (.int .i64 20) (.int .i64 0) (.int .i64 10) (.int .i64 0) (.int .i64 60) (.slice (some ⟨gd, 0, none⟩) 2 2)) hg) hS.1
      · refine wpOp_go (by rfl) (Eq.refl _) (by go_simp; done) ?_
        intro K hK
        go_simp
        try simp only [Act.put]
        have bc := Blk.new w3 60 #[.string ⟨#[103, 97, 105, 110]⟩, .int .i64 100, .int .i64 50, .slice none 0 0]
        have hal : Gr w3 (w3.alloc (.cells #[.string ⟨#[103, 97, 105, 110]⟩, .int .i64 100, .int .i64 50, .slice none 0 0] 60)) := (Below.refl _ _).alloc (Nat.le_refl _) _
        replace z := And.intro (Below.trans z.1 (Below.mono hal (Below.size z.1))) (Blk.gr z.2 hal)
        replace br := Blk.gr br hal
        try replace b4 := Blk.gr b4 hal
        try replace b9 := Blk.gr b9 hal
        try replace bd := Blk.gr bd hal
        clear hal
        generalize w3.heap.size = gc at *
        refine hK _ _ z ?_
        clear hK K
        refine wpW_branch [4] (by kernel_rfl) (by simp) ?_
        intro w4 hg4 hS4
        try clear z
        have z := hS4
        replace br := Blk.gr br hg4
        replace b9 := Blk.gr b9 hg4
        replace bc := Blk.gr bc hg4
        replace bd := Blk.gr bd hg4
        refine each_cons ?_ (each_nil)
        refine wpOp_go (by rfl) (Eq.refl _) (by go_simp; done) ?_
        intro K hK
        go_simp
        try simp only [Act.put]
        have b4 := Blk.new w4 57 #[.string ⟨#[97, 110, 110]⟩, .int .i64 1, .string ⟨#[98, 111, 98]⟩, .int .i64 2, .string ⟨#[99, 105, 100]⟩, .int .i64 2, .string ⟨#[100, 111, 114, 97]⟩, .int .i64 3]
        have hal : Gr w4 (w4.alloc (.cells #[.string ⟨#[97, 110, 110]⟩, .int .i64 1, .string ⟨#[98, 111, 98]⟩, .int .i64 2, .string ⟨#[99, 105, 100]⟩, .int .i64 2, .string ⟨#[100, 111, 114, 97]⟩, .int .i64 3] 57)) := (Below.refl _ _).alloc (Nat.le_refl _) _
        replace z := And.intro (Below.trans z.1 (Below.mono hal (Below.size z.1))) (Blk.gr z.2 hal)
        replace br := Blk.gr br hal
        try replace b9 := Blk.gr b9 hal
        try replace bc := Blk.gr bc hal
        try replace bd := Blk.gr bd hal
        clear hal
        generalize w4.heap.size = g4 at *
        refine hK _ _ z ?_
        clear hK K
        refine wpW_det (t' := ?ct18R37) 18 (by rfl) (by kernel_rfl) (NQ_free _) (by kernel_rfl) ?cw18R37 ?ch18R37 ?ca18R37 (Eq.refl _) ?cH18R37
        case cw18R37 => (go_simp; done)
        case ch18R37 =>
          intro ds w' hS K hK
          go_simp
          try go_bits
          exact hK _ hS (Gr.refl _)
        case ca18R37 => (first | (simp [Act.put]; done) | (simp [Act.put, *]; done))
        try dsimp only
        refine wpW_branch [19] (by kernel_rfl) (by simp) ?_
        intro wz hg_wz hS_wz
        replace br := Blk.gr br hg_wz
        replace b4 := Blk.gr b4 hg_wz
        replace b9 := Blk.gr b9 hg_wz
        replace bc := Blk.gr bc hg_wz
        replace bd := Blk.gr bd hg_wz
        obtain ⟨z0, z1, z2, z3, z4, z5, z6, z7, z8, z9, z10, z11, z12, zf⟩ := blk13 br
        have lr := br.lt
        refine each_cons ?_ each_nil
        refine wpOp_go (by rfl) (Eq.refl _) (by go_simp; done) ?_
        intro K hK
        go_simp
        try simp only [Act.put]
        refine hK _ _ (And.intro (Below.set13 hS_wz.1 HGR.out (.slice (some ⟨g4, 0, none⟩) 4 4) (.string ⟨#[99]⟩) (.slice none 0 0) (.slice (some ⟨g9, 0, none⟩) 2 2) (.int .i64 1000) (.slice (some ⟨gc, 0, none⟩) 1 1) (.int .i64 0) (.int .i64 20) (.int .i64 0) (.int .i64 10) (.int .i64 0) (.int .i64 60) (.slice (some ⟨gd, 0, none⟩) 2 2)) (Blk.far13 hS_wz.2 (Blk.ne_ hS_wz.2 br (by decide)) (.slice (some ⟨g4, 0, none⟩) 4 4) (.string ⟨#[99]⟩) (.slice none 0 0) (.slice (some ⟨g9, 0, none⟩) 2 2) (.int .i64 1000) (.slice (some ⟨gc, 0, none⟩) 1 1) (.int .i64 0) (.int .i64 20) (.int .i64 0) (.int .i64 10) (.int .i64 0) (.int .i64 60) (.slice (some ⟨gd, 0, none⟩) 2 2))) ?_
        clear hK K z0 z1 z2 z3 z4 z5 z6 z7 z8 z9 z10 z11 z12 zf lr
        refine wpW_end (by kernel_rfl) ?_
        intro we hg hS
        unfold NQ
        dsimp only
        exact H.out _ _ _ _ _ _ _ _ _ _ _ _ _ _ _ _ _ _ _ _ we (HOK.out (Blk.gr (b4.far13 (Blk.ne_ b4 br (by decide)) (.slice (some ⟨g4, 0, none⟩) 4 4) (.string ⟨#[99]⟩) (.slice none 0 0) (.slice (some ⟨g9, 0, none⟩) 2 2) (.int .i64 1000) (.slice (some ⟨gc, 0, none⟩) 1 1) (.int .i64 0) (.int .i64 20) (.int .i64 0) (.int .i64 10) (.int .i64 0) (.int .i64 60) (.slice (some ⟨gd, 0, none⟩) 2 2)) hg) (Blk.gr (b9.far13 (Blk.ne_ b9 br (by decide)) (.slice (some ⟨g4, 0, none⟩) 4 4) (.string ⟨#[99]⟩) (.slice none 0 0) (.slice (some ⟨g9, 0, none⟩) 2 2) (.int .i64 1000) (.slice (some ⟨gc, 0, none⟩) 1 1) (.int .i64 0) (.int .i64 20) (.int .i64 0) (.int .i64 10) (.int .i64 0) (.int .i64 60) (.slice (some ⟨gd, 0, none⟩) 2 2)) hg) (Blk.gr (bc.far13 (Blk.ne_ bc br (by decide)) (.slice (some ⟨g4, 0, none⟩) 4 4) (.string ⟨#[99]⟩) (.slice none 0 0) (.slice (some ⟨g9, 0, none⟩) 2 2) (.int .i64 1000) (.slice (some ⟨gc, 0, none⟩) 1 1) (.int .i64 0) (.int .i64 20) (.int .i64 0) (.int .i64 10) (.int .i64 0) (.int .i64 60) (.slice (some ⟨gd, 0, none⟩) 2 2)) hg) (Blk.gr (bd.far13 (Blk.ne_ bd br (by decide)) (.slice (some ⟨g4, 0, none⟩) 4 4) (.string ⟨#[99]⟩) (.slice none 0 0) (.slice (some ⟨g9, 0, none⟩) 2 2) (.int .i64 1000) (.slice (some ⟨gc, 0, none⟩) 1 1) (.int .i64 0) (.int .i64 20) (.int .i64 0) (.int .i64 10) (.int .i64 0) (.int .i64 60) (.slice (some ⟨gd, 0, none⟩) 2 2)) hg)) (Blk.gr (br.set13 (.slice (some ⟨g4, 0, none⟩) 4 4) (.string ⟨#[99]⟩) (.slice none 0 0) (.slice (some ⟨g9, 0, none⟩) 2 2) (.int .i64 1000) (.slice (some ⟨gc, 0, none⟩) 1 1) (.int .i64 0) (.int .i64 20) (.int .i64 0) (.int .i64 10) (.int .i64 0) (.int .i64 60) (.slice (some ⟨gd, 0, none⟩) 2 2)) hg) hS.1
    · refine wpOp_go (by rfl) (Eq.refl _) (by go_simp; done) ?_
      intro K hK
      go_simp
      try simp only [Act.put]
      have bc := Blk.new w2 60 #[.string ⟨#[103, 97, 105, 110]⟩, .int .i64 100, .int .i64 50, .slice none 0 0]
      have hal : Gr w2 (w2.alloc (.cells #[.string ⟨#[103, 97, 105, 110]⟩, .int .i64 100, .int .i64 50, .slice none 0 0] 60)) := (Below.refl _ _).alloc (Nat.le_refl _) _
      replace z := And.intro (Below.trans z.1 (Below.mono hal (Below.size z.1))) (Blk.gr z.2 hal)
      replace br := Blk.gr br hal
      try replace b4 := Blk.gr b4 hal
      try replace b9 := Blk.gr b9 hal
      try replace bd := Blk.gr bd hal
      clear hal
      generalize w2.heap.size = gc at *
      refine hK _ _ z ?_
      clear hK K
      refine wpW_branch [4, 9] (by kernel_rfl) (by simp) ?_
      intro w3 hg3 hS3
      try clear z
      have z := hS3
      replace br := Blk.gr br hg3
      replace bc := Blk.gr bc hg3
      replace bd := Blk.gr bd hg3
      refine each_cons ?_ (each_cons ?_ (each_nil))
      · refine wpOp_go (by rfl) (Eq.refl _) (by go_simp; done) ?_
        intro K hK
        go_simp
        try simp only [Act.put]
        have b4 := Blk.new w3 57 #[.string ⟨#[97, 110, 110]⟩, .int .i64 1, .string ⟨#[98, 111, 98]⟩, .int .i64 2, .string ⟨#[99, 105, 100]⟩, .int .i64 2, .string ⟨#[100, 111, 114, 97]⟩, .int .i64 3]
        have hal : Gr w3 (w3.alloc (.cells #[.string ⟨#[97, 110, 110]⟩, .int .i64 1, .string ⟨#[98, 111, 98]⟩, .int .i64 2, .string ⟨#[99, 105, 100]⟩, .int .i64 2, .string ⟨#[100, 111, 114, 97]⟩, .int .i64 3] 57)) := (Below.refl _ _).alloc (Nat.le_refl _) _
        replace z := And.intro (Below.trans z.1 (Below.mono hal (Below.size z.1))) (Blk.gr z.2 hal)
        replace br := Blk.gr br hal
        try replace b9 := Blk.gr b9 hal
        try replace bc := Blk.gr bc hal
        try replace bd := Blk.gr bd hal
        clear hal
        generalize w3.heap.size = g4 at *
        refine hK _ _ z ?_
        clear hK K
        refine wpW_branch [9] (by kernel_rfl) (by simp) ?_
        intro w4 hg4 hS4
        try clear z
        have z := hS4
        replace br := Blk.gr br hg4
        replace b4 := Blk.gr b4 hg4
        replace bc := Blk.gr bc hg4
        replace bd := Blk.gr bd hg4
        refine each_cons ?_ (each_nil)
        refine wpOp_go (by rfl) (Eq.refl _) (by go_simp; done) ?_
        intro K hK
        go_simp
        try simp only [Act.put]
        have b9 := Blk.new w4 110 #[.int .i64 (weldLow 0), .int .i64 (weldLow 1), .int .i64 (weldLow 2), .int .i64 (weldLow 3), .int .i64 (weldLow 4), .int .i64 (weldLow 5), .int .i64 (weldLow 6), .int .i64 (weldLow 7), .int .i64 (weldLow 8), .int .i64 (weldLow 9), .int .i64 (weldLow 10), .int .i64 (weldLow 11), .int .i64 0, .int .i64 (weldTop 0), .int .i64 (weldTop 1), .int .i64 (weldTop 2), .int .i64 (weldTop 3), .int .i64 (weldTop 4), .int .i64 (weldTop 5), .int .i64 (weldTop 6), .int .i64 (weldTop 7), .int .i64 (weldTop 8), .int .i64 (weldTop 9), .int .i64 (weldTop 10), .int .i64 (weldTop 11), .int .i64 1]
        have hal : Gr w4 (w4.alloc (.cells #[.int .i64 (weldLow 0), .int .i64 (weldLow 1), .int .i64 (weldLow 2), .int .i64 (weldLow 3), .int .i64 (weldLow 4), .int .i64 (weldLow 5), .int .i64 (weldLow 6), .int .i64 (weldLow 7), .int .i64 (weldLow 8), .int .i64 (weldLow 9), .int .i64 (weldLow 10), .int .i64 (weldLow 11), .int .i64 0, .int .i64 (weldTop 0), .int .i64 (weldTop 1), .int .i64 (weldTop 2), .int .i64 (weldTop 3), .int .i64 (weldTop 4), .int .i64 (weldTop 5), .int .i64 (weldTop 6), .int .i64 (weldTop 7), .int .i64 (weldTop 8), .int .i64 (weldTop 9), .int .i64 (weldTop 10), .int .i64 (weldTop 11), .int .i64 1] 110)) := (Below.refl _ _).alloc (Nat.le_refl _) _
        replace z := And.intro (Below.trans z.1 (Below.mono hal (Below.size z.1))) (Blk.gr z.2 hal)
        replace br := Blk.gr br hal
        try replace b4 := Blk.gr b4 hal
        try replace bc := Blk.gr bc hal
        try replace bd := Blk.gr bd hal
        clear hal
        generalize w4.heap.size = g9 at *
        refine hK _ _ z ?_
        clear hK K
        refine wpW_det (t' := ?ct10R38) 10 (by rfl) (by kernel_rfl) (NQ_free _) (by kernel_rfl) ?cw10R38 ?ch10R38 ?ca10R38 (Eq.refl _) ?cH10R38
        case cw10R38 => (go_simp; done)
        case ch10R38 =>
          intro ds w' hS K hK
          go_simp
          try go_bits
          exact hK _ hS (Gr.refl _)
        case ca10R38 => (first | (simp [Act.put]; done) | (simp [Act.put, *]; done))
        try dsimp only
        refine wpW_det (t' := ?ct18R39) 18 (by rfl) (by kernel_rfl) (NQ_free _) (by kernel_rfl) ?cw18R39 ?ch18R39 ?ca18R39 (Eq.refl _) ?cH18R39
        case cw18R39 => (go_simp; done)
        case ch18R39 =>
          intro ds w' hS K hK
          go_simp
          try go_bits
          exact hK _ hS (Gr.refl _)
        case ca18R39 => (first | (simp [Act.put]; done) | (simp [Act.put, *]; done))
        try dsimp only
        refine wpW_branch [19] (by kernel_rfl) (by simp) ?_
        intro wz hg_wz hS_wz
        replace br := Blk.gr br hg_wz
        replace b4 := Blk.gr b4 hg_wz
        replace b9 := Blk.gr b9 hg_wz
        replace bc := Blk.gr bc hg_wz
        replace bd := Blk.gr bd hg_wz
        obtain ⟨z0, z1, z2, z3, z4, z5, z6, z7, z8, z9, z10, z11, z12, zf⟩ := blk13 br
        have lr := br.lt
        refine each_cons ?_ each_nil
        refine wpOp_go (by rfl) (Eq.refl _) (by go_simp; done) ?_
        intro K hK
        go_simp
        try simp only [Act.put]
        refine hK _ _ (And.intro (Below.set13 hS_wz.1 HGR.out (.slice (some ⟨g4, 0, none⟩) 4 4) (.string ⟨#[99]⟩) (.slice none 0 0) (.slice (some ⟨g9, 0, none⟩) 2 2) (.int .i64 1000) (.slice (some ⟨gc, 0, none⟩) 1 1) (.int .i64 0) (.int .i64 20) (.int .i64 0) (.int .i64 10) (.int .i64 0) (.int .i64 60) (.slice (some ⟨gd, 0, none⟩) 2 2)) (Blk.far13 hS_wz.2 (Blk.ne_ hS_wz.2 br (by decide)) (.slice (some ⟨g4, 0, none⟩) 4 4) (.string ⟨#[99]⟩) (.slice none 0 0) (.slice (some ⟨g9, 0, none⟩) 2 2) (.int .i64 1000) (.slice (some ⟨gc, 0, none⟩) 1 1) (.int .i64 0) (.int .i64 20) (.int .i64 0) (.int .i64 10) (.int .i64 0) (.int .i64 60) (.slice (some ⟨gd, 0, none⟩) 2 2))) ?_
        clear hK K z0 z1 z2 z3 z4 z5 z6 z7 z8 z9 z10 z11 z12 zf lr
        refine wpW_end (by kernel_rfl) ?_
        intro we hg hS
        unfold NQ
        dsimp only
        exact H.out _ _ _ _ _ _ _ _ _ _ _ _ _ _ _ _ _ _ _ _ we (HOK.out (Blk.gr (b4.far13 (Blk.ne_ b4 br (by decide)) (.slice (some ⟨g4, 0, none⟩) 4 4) (.string ⟨#[99]⟩) (.slice none 0 0) (.slice (some ⟨g9, 0, none⟩) 2 2) (.int .i64 1000) (.slice (some ⟨gc, 0, none⟩) 1 1) (.int .i64 0) (.int .i64 20) (.int .i64 0) (.int .i64 10) (.int .i64 0) (.int .i64 60) (.slice (some ⟨gd, 0, none⟩) 2 2)) hg) (Blk.gr (b9.far13 (Blk.ne_ b9 br (by decide)) (.slice (some ⟨g4, 0, none⟩) 4 4) (.string ⟨#[99]⟩) (.slice none 0 0) (.slice (some ⟨g9, 0, none⟩) 2 2) (.int .i64 1000) (.slice (some ⟨gc, 0, none⟩) 1 1) (.int .i64 0) (.int .i64 20) (.int .i64 0) (.int .i64 10) (.int .i64 0) (.int .i64 60) (.slice (some ⟨gd, 0, none⟩) 2 2)) hg) (Blk.gr (bc.far13 (Blk.ne_ bc br (by decide)) (.slice (some ⟨g4, 0, none⟩) 4 4) (.string ⟨#[99]⟩) (.slice none 0 0) (.slice (some ⟨g9, 0, none⟩) 2 2) (.int .i64 1000) (.slice (some ⟨gc, 0, none⟩) 1 1) (.int .i64 0) (.int .i64 20) (.int .i64 0) (.int .i64 10) (.int .i64 0) (.int .i64 60) (.slice (some ⟨gd, 0, none⟩) 2 2)) hg) (Blk.gr (bd.far13 (Blk.ne_ bd br (by decide)) (.slice (some ⟨g4, 0, none⟩) 4 4) (.string ⟨#[99]⟩) (.slice none 0 0) (.slice (some ⟨g9, 0, none⟩) 2 2) (.int .i64 1000) (.slice (some ⟨gc, 0, none⟩) 1 1) (.int .i64 0) (.int .i64 20) (.int .i64 0) (.int .i64 10) (.int .i64 0) (.int .i64 60) (.slice (some ⟨gd, 0, none⟩) 2 2)) hg)) (Blk.gr (br.set13 (.slice (some ⟨g4, 0, none⟩) 4 4) (.string ⟨#[99]⟩) (.slice none 0 0) (.slice (some ⟨g9, 0, none⟩) 2 2) (.int .i64 1000) (.slice (some ⟨gc, 0, none⟩) 1 1) (.int .i64 0) (.int .i64 20) (.int .i64 0) (.int .i64 10) (.int .i64 0) (.int .i64 60) (.slice (some ⟨gd, 0, none⟩) 2 2)) hg) hS.1
      · refine wpOp_go (by rfl) (Eq.refl _) (by go_simp; done) ?_
        intro K hK
        go_simp
        try simp only [Act.put]
        have b9 := Blk.new w3 110 #[.int .i64 (weldLow 0), .int .i64 (weldLow 1), .int .i64 (weldLow 2), .int .i64 (weldLow 3), .int .i64 (weldLow 4), .int .i64 (weldLow 5), .int .i64 (weldLow 6), .int .i64 (weldLow 7), .int .i64 (weldLow 8), .int .i64 (weldLow 9), .int .i64 (weldLow 10), .int .i64 (weldLow 11), .int .i64 0, .int .i64 (weldTop 0), .int .i64 (weldTop 1), .int .i64 (weldTop 2), .int .i64 (weldTop 3), .int .i64 (weldTop 4), .int .i64 (weldTop 5), .int .i64 (weldTop 6), .int .i64 (weldTop 7), .int .i64 (weldTop 8), .int .i64 (weldTop 9), .int .i64 (weldTop 10), .int .i64 (weldTop 11), .int .i64 1]
        have hal : Gr w3 (w3.alloc (.cells #[.int .i64 (weldLow 0), .int .i64 (weldLow 1), .int .i64 (weldLow 2), .int .i64 (weldLow 3), .int .i64 (weldLow 4), .int .i64 (weldLow 5), .int .i64 (weldLow 6), .int .i64 (weldLow 7), .int .i64 (weldLow 8), .int .i64 (weldLow 9), .int .i64 (weldLow 10), .int .i64 (weldLow 11), .int .i64 0, .int .i64 (weldTop 0), .int .i64 (weldTop 1), .int .i64 (weldTop 2), .int .i64 (weldTop 3), .int .i64 (weldTop 4), .int .i64 (weldTop 5), .int .i64 (weldTop 6), .int .i64 (weldTop 7), .int .i64 (weldTop 8), .int .i64 (weldTop 9), .int .i64 (weldTop 10), .int .i64 (weldTop 11), .int .i64 1] 110)) := (Below.refl _ _).alloc (Nat.le_refl _) _
        replace z := And.intro (Below.trans z.1 (Below.mono hal (Below.size z.1))) (Blk.gr z.2 hal)
        replace br := Blk.gr br hal
        try replace b4 := Blk.gr b4 hal
        try replace bc := Blk.gr bc hal
        try replace bd := Blk.gr bd hal
        clear hal
        generalize w3.heap.size = g9 at *
        refine hK _ _ z ?_
        clear hK K
        refine wpW_det (t' := ?ct10R40) 10 (by rfl) (by kernel_rfl) (NQ_free _) (by kernel_rfl) ?cw10R40 ?ch10R40 ?ca10R40 (Eq.refl _) ?cH10R40
        case cw10R40 => (go_simp; done)
        case ch10R40 =>
          intro ds w' hS K hK
          go_simp
          try go_bits
          exact hK _ hS (Gr.refl _)
        case ca10R40 => (first | (simp [Act.put]; done) | (simp [Act.put, *]; done))
        try dsimp only
        refine wpW_branch [4] (by kernel_rfl) (by simp) ?_
        intro w4 hg4 hS4
        try clear z
        have z := hS4
        replace br := Blk.gr br hg4
        replace b9 := Blk.gr b9 hg4
        replace bc := Blk.gr bc hg4
        replace bd := Blk.gr bd hg4
        refine each_cons ?_ (each_nil)
        refine wpOp_go (by rfl) (Eq.refl _) (by go_simp; done) ?_
        intro K hK
        go_simp
        try simp only [Act.put]
        have b4 := Blk.new w4 57 #[.string ⟨#[97, 110, 110]⟩, .int .i64 1, .string ⟨#[98, 111, 98]⟩, .int .i64 2, .string ⟨#[99, 105, 100]⟩, .int .i64 2, .string ⟨#[100, 111, 114, 97]⟩, .int .i64 3]
        have hal : Gr w4 (w4.alloc (.cells #[.string ⟨#[97, 110, 110]⟩, .int .i64 1, .string ⟨#[98, 111, 98]⟩, .int .i64 2, .string ⟨#[99, 105, 100]⟩, .int .i64 2, .string ⟨#[100, 111, 114, 97]⟩, .int .i64 3] 57)) := (Below.refl _ _).alloc (Nat.le_refl _) _
        replace z := And.intro (Below.trans z.1 (Below.mono hal (Below.size z.1))) (Blk.gr z.2 hal)
        replace br := Blk.gr br hal
        try replace b9 := Blk.gr b9 hal
        try replace bc := Blk.gr bc hal
        try replace bd := Blk.gr bd hal
        clear hal
        generalize w4.heap.size = g4 at *
        refine hK _ _ z ?_
        clear hK K
        refine wpW_det (t' := ?ct18R41) 18 (by rfl) (by kernel_rfl) (NQ_free _) (by kernel_rfl) ?cw18R41 ?ch18R41 ?ca18R41 (Eq.refl _) ?cH18R41
        case cw18R41 => (go_simp; done)
        case ch18R41 =>
          intro ds w' hS K hK
          go_simp
          try go_bits
          exact hK _ hS (Gr.refl _)
        case ca18R41 => (first | (simp [Act.put]; done) | (simp [Act.put, *]; done))
        try dsimp only
        refine wpW_branch [19] (by kernel_rfl) (by simp) ?_
        intro wz hg_wz hS_wz
        replace br := Blk.gr br hg_wz
        replace b4 := Blk.gr b4 hg_wz
        replace b9 := Blk.gr b9 hg_wz
        replace bc := Blk.gr bc hg_wz
        replace bd := Blk.gr bd hg_wz
        obtain ⟨z0, z1, z2, z3, z4, z5, z6, z7, z8, z9, z10, z11, z12, zf⟩ := blk13 br
        have lr := br.lt
        refine each_cons ?_ each_nil
        refine wpOp_go (by rfl) (Eq.refl _) (by go_simp; done) ?_
        intro K hK
        go_simp
        try simp only [Act.put]
        refine hK _ _ (And.intro (Below.set13 hS_wz.1 HGR.out (.slice (some ⟨g4, 0, none⟩) 4 4) (.string ⟨#[99]⟩) (.slice none 0 0) (.slice (some ⟨g9, 0, none⟩) 2 2) (.int .i64 1000) (.slice (some ⟨gc, 0, none⟩) 1 1) (.int .i64 0) (.int .i64 20) (.int .i64 0) (.int .i64 10) (.int .i64 0) (.int .i64 60) (.slice (some ⟨gd, 0, none⟩) 2 2)) (Blk.far13 hS_wz.2 (Blk.ne_ hS_wz.2 br (by decide)) (.slice (some ⟨g4, 0, none⟩) 4 4) (.string ⟨#[99]⟩) (.slice none 0 0) (.slice (some ⟨g9, 0, none⟩) 2 2) (.int .i64 1000) (.slice (some ⟨gc, 0, none⟩) 1 1) (.int .i64 0) (.int .i64 20) (.int .i64 0) (.int .i64 10) (.int .i64 0) (.int .i64 60) (.slice (some ⟨gd, 0, none⟩) 2 2))) ?_
        clear hK K z0 z1 z2 z3 z4 z5 z6 z7 z8 z9 z10 z11 z12 zf lr
        refine wpW_end (by kernel_rfl) ?_
        intro we hg hS
        unfold NQ
        dsimp only
        exact H.out _ _ _ _ _ _ _ _ _ _ _ _ _ _ _ _ _ _ _ _ we (HOK.out (Blk.gr (b4.far13 (Blk.ne_ b4 br (by decide)) (.slice (some ⟨g4, 0, none⟩) 4 4) (.string ⟨#[99]⟩) (.slice none 0 0) (.slice (some ⟨g9, 0, none⟩) 2 2) (.int .i64 1000) (.slice (some ⟨gc, 0, none⟩) 1 1) (.int .i64 0) (.int .i64 20) (.int .i64 0) (.int .i64 10) (.int .i64 0) (.int .i64 60) (.slice (some ⟨gd, 0, none⟩) 2 2)) hg) (Blk.gr (b9.far13 (Blk.ne_ b9 br (by decide)) (.slice (some ⟨g4, 0, none⟩) 4 4) (.string ⟨#[99]⟩) (.slice none 0 0) (.slice (some ⟨g9, 0, none⟩) 2 2) (.int .i64 1000) (.slice (some ⟨gc, 0, none⟩) 1 1) (.int .i64 0) (.int .i64 20) (.int .i64 0) (.int .i64 10) (.int .i64 0) (.int .i64 60) (.slice (some ⟨gd, 0, none⟩) 2 2)) hg) (Blk.gr (bc.far13 (Blk.ne_ bc br (by decide)) (.slice (some ⟨g4, 0, none⟩) 4 4) (.string ⟨#[99]⟩) (.slice none 0 0) (.slice (some ⟨g9, 0, none⟩) 2 2) (.int .i64 1000) (.slice (some ⟨gc, 0, none⟩) 1 1) (.int .i64 0) (.int .i64 20) (.int .i64 0) (.int .i64 10) (.int .i64 0) (.int .i64 60) (.slice (some ⟨gd, 0, none⟩) 2 2)) hg) (Blk.gr (bd.far13 (Blk.ne_ bd br (by decide)) (.slice (some ⟨g4, 0, none⟩) 4 4) (.string ⟨#[99]⟩) (.slice none 0 0) (.slice (some ⟨g9, 0, none⟩) 2 2) (.int .i64 1000) (.slice (some ⟨gc, 0, none⟩) 1 1) (.int .i64 0) (.int .i64 20) (.int .i64 0) (.int .i64 10) (.int .i64 0) (.int .i64 60) (.slice (some ⟨gd, 0, none⟩) 2 2)) hg)) (Blk.gr (br.set13 (.slice (some ⟨g4, 0, none⟩) 4 4) (.string ⟨#[99]⟩) (.slice none 0 0) (.slice (some ⟨g9, 0, none⟩) 2 2) (.int .i64 1000) (.slice (some ⟨gc, 0, none⟩) 1 1) (.int .i64 0) (.int .i64 20) (.int .i64 0) (.int .i64 10) (.int .i64 0) (.int .i64 60) (.slice (some ⟨gd, 0, none⟩) 2 2)) hg) hS.1
end Go.Proofs.YtlbpogklkkninaaGreatDoor
