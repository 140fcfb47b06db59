/- The law FlawMarks answers true. -/
import Derived.Test.YtidgeagpgllkeaaGreatFiE
import Derived.Test.YtidgeagpgllkeaaGreatFiF
import Derived.Test.YtidgeagpgllkeaaGreatFiG
namespace Go.Proofs.YtidgeagpgllkeaaGreat
open Go.RowKit

theorem Row.more2 {w : World} {B B' size n : Nat} {A : Option Addr} {xs : List Value} (h : Row w B size A n xs) (hB : B ≤ B') : Row w B' size A n xs := h.more hB
set_option maxRecDepth 100000 in
set_option maxHeartbeats 4000000 in
/-- The mark of a copy of the area, stored (region 5). -/
theorem marksReg5 (l : List (Int × Int)) (A : Option Addr) (c B : Nat) (pr pc lv d0 d1 : Int) (nm : ByteArray) {w : World} {q3 q4 : Nat} (hR : Hid (∀ w', Below w.heap.size w w' → Row w' B 2 A l.length (cellsC l))) (hB : B ≤ w.heap.size) (hc : l.length ≤ c) (hA : Hid (A = none → c = 0)) (hl : l.length ≤ 1000000000) (hnm : nm.size ≤ 1000000000000)
    (b3 : Blk w q3 91 #[.slice A l.length c, .int .i64 pr, .int .i64 pc, .int .i64 lv]) (b4 : Blk w q4 85 #[.int .i64 d0, .int .i64 d1]) (M : Mk) (er : Int) (HV : Hid (markOfV l d0 d1 nm lv = (M, er))) {t0 t1 t5 t6 t7 t8 t9 t10 t11 t12 t13 t14 t15 t16 t17 t18 t19 t20 t21 t22 t23 t24 t25 t26 t27 t28 t29 t30 t31 t32 t33 t34 t35 t36 t37 t38 t39 t40 t41 t42 t43 t44 t45 t46 t47 t48 t49 t50 t51 t52 t53 t54 t55 t56 t57 t58 t59 t60 t61 t62 t63 : Value} {ds : List Deferred} (Q : Exit → Act → World → Prop)
    (h : ∀ (t34 t35 t36 t37 t38 t39 t40 t41 : Value) (z : Nat) (w' : World), Blk w' z 79 (mkC M) → w.heap.size ≤ z → Below w.heap.size w w' → Q .normal ⟨#[t0, t1, .string nm, .pointer (some ⟨q3, 0, none⟩), .pointer (some ⟨q4, 0, none⟩), t5, t6, .pointer (some ⟨z, 0, none⟩), .int .i64 er, t9, t10, t11, t12, t13, t14, t15, t16, t17, t18, t19, t20, t21, t22, t23, t24, t25, t26, t27, t28, t29, t30, t31, t32, t33, t34, t35, t36, t37, t38, t39, t40, t41, t42, t43, t44, t45, t46, t47, t48, t49, t50, t51, t52, t53, t54, t55, t56, t57, t58, t59, t60, t61, t62, t63], ds⟩ w') :
    (regOf Tryz.f15 5).wp Tryz.prog Q ⟨#[t0, t1, .string nm, .pointer (some ⟨q3, 0, none⟩), .pointer (some ⟨q4, 0, none⟩), t5, t6, t7, t8, t9, t10, t11, t12, t13, t14, t15, t16, t17, t18, t19, t20, t21, t22, t23, t24, t25, t26, t27, t28, t29, t30, t31, t32, t33, t34, t35, t36, t37, t38, t39, t40, t41, t42, t43, t44, t45, t46, t47, t48, t49, t50, t51, t52, t53, t54, t55, t56, t57, t58, t59, t60, t61, t62, t63], ds⟩ w := by
  have H := Lib.hid h; clear h
  obtain ⟨x0, x1, x2, x3, _⟩ := blk4 b3
  obtain ⟨y0, y1, _⟩ := blk2c b4
  have l3 := b3.lt
  have l4 := b4.lt
  conv in (regOf _ _) => whnf
  refine wp_region_w (Gr _) (by kernel_rfl) (Below.refl _ _).drew ?_
  refine wpW_det (t' := ?ct0R1) 0 (by rfl) (by kernel_rfl) (NQ_free _) (by kernel_rfl) ?cw0R1 ?ch0R1 ?ca0R1 (Eq.refl _) ?cH0R1
  case cw0R1 => (go_simp; done)
  case ch0R1 =>
    intro ds w' hS K hK
    have hc := (bcell hS).1
    have hf := (bcell hS).2
    have hz := hS.size
    try simp at hz
    go_simp
    try go_bits
    first
      | exact hK _ hS (Gr.refl _)
      | exact hK _ (by repeat (first | (with_reducible exact Below.refl _ _) | (with_reducible assumption) | ((with_reducible refine Below.setCell ?_ ?_ _); rotate_left; · (first | exact Nat.le_refl _ | (simp; done) | (simp; omega) | omega)) | ((with_reducible refine Below.alloc ?_ ?_ _); rotate_left; · (first | exact Nat.le_refl _ | (simp; done) | (simp; omega) | omega)) | (with_reducible apply Below.drew) | (with_reducible apply below_drewN') | (refine Below.trans ?_ (Below.mono (by assumption) (by first | exact Nat.le_refl _ | (simp; done) | (simp; omega) | omega))) | exact Below.refl _ _ | assumption)) (by repeat (first | (with_reducible exact Below.refl _ _) | (with_reducible assumption) | ((with_reducible refine Below.setCell ?_ ?_ _); rotate_left; · (first | exact Nat.le_refl _ | (simp; done) | (simp; omega) | omega)) | ((with_reducible refine Below.alloc ?_ ?_ _); rotate_left; · (first | exact Nat.le_refl _ | (simp; done) | (simp; omega) | omega)) | (with_reducible apply Below.drew) | (with_reducible apply below_drewN') | (refine Below.trans ?_ (Below.mono (by assumption) (by first | exact Nat.le_refl _ | (simp; done) | (simp; omega) | omega))) | exact Below.refl _ _ | assumption))
  case ca0R1 => (first | (simp [Act.put]; done) | (simp [Act.put, *]; done))
  try dsimp only
  refine wpW_det (t' := ?ct2R1) 2 (by rfl) (by kernel_rfl) (NQ_free _) (by kernel_rfl) ?cw2R1 ?ch2R1 ?ca2R1 (Eq.refl _) ?cH2R1
  case cw2R1 => (go_simp; done)
  case ch2R1 =>
    intro ds w' hS K hK
    have hc := (bcell hS).1
    have hf := (bcell hS).2
    have hz := hS.size
    try simp at hz
    go_simp
    try go_bits
    first
      | exact hK _ hS (Gr.refl _)
      | exact hK _ (by repeat (first | (with_reducible exact Below.refl _ _) | (with_reducible assumption) | ((with_reducible refine Below.setCell ?_ ?_ _); rotate_left; · (first | exact Nat.le_refl _ | (simp; done) | (simp; omega) | omega)) | ((with_reducible refine Below.alloc ?_ ?_ _); rotate_left; · (first | exact Nat.le_refl _ | (simp; done) | (simp; omega) | omega)) | (with_reducible apply Below.drew) | (with_reducible apply below_drewN') | (refine Below.trans ?_ (Below.mono (by assumption) (by first | exact Nat.le_refl _ | (simp; done) | (simp; omega) | omega))) | exact Below.refl _ _ | assumption)) (by repeat (first | (with_reducible exact Below.refl _ _) | (with_reducible assumption) | ((with_reducible refine Below.setCell ?_ ?_ _); rotate_left; · (first | exact Nat.le_refl _ | (simp; done) | (simp; omega) | omega)) | ((with_reducible refine Below.alloc ?_ ?_ _); rotate_left; · (first | exact Nat.le_refl _ | (simp; done) | (simp; omega) | omega)) | (with_reducible apply Below.drew) | (with_reducible apply below_drewN') | (refine Below.trans ?_ (Below.mono (by assumption) (by first | exact Nat.le_refl _ | (simp; done) | (simp; omega) | omega))) | exact Below.refl _ _ | assumption))
  case ca2R1 => (first | (simp [Act.put]; done) | (simp [Act.put, *]; done))
  try dsimp only
  refine wpW_det (t' := ?ct3R1) 3 (by rfl) (by kernel_rfl) (NQ_free _) (by kernel_rfl) ?cw3R1 ?ch3R1 ?ca3R1 (Eq.refl _) ?cH3R1
  case cw3R1 => (go_simp; done)
  case ch3R1 =>
    intro ds w' hS K hK
    have hc := (bcell hS).1
    have hf := (bcell hS).2
    have hz := hS.size
    try simp at hz
    go_simp
    try go_bits
    first
      | exact hK _ hS (Gr.refl _)
      | exact hK _ (by repeat (first | (with_reducible exact Below.refl _ _) | (with_reducible assumption) | ((with_reducible refine Below.setCell ?_ ?_ _); rotate_left; · (first | exact Nat.le_refl _ | (simp; done) | (simp; omega) | omega)) | ((with_reducible refine Below.alloc ?_ ?_ _); rotate_left; · (first | exact Nat.le_refl _ | (simp; done) | (simp; omega) | omega)) | (with_reducible apply Below.drew) | (with_reducible apply below_drewN') | (refine Below.trans ?_ (Below.mono (by assumption) (by first | exact Nat.le_refl _ | (simp; done) | (simp; omega) | omega))) | exact Below.refl _ _ | assumption)) (by repeat (first | (with_reducible exact Below.refl _ _) | (with_reducible assumption) | ((with_reducible refine Below.setCell ?_ ?_ _); rotate_left; · (first | exact Nat.le_refl _ | (simp; done) | (simp; omega) | omega)) | ((with_reducible refine Below.alloc ?_ ?_ _); rotate_left; · (first | exact Nat.le_refl _ | (simp; done) | (simp; omega) | omega)) | (with_reducible apply Below.drew) | (with_reducible apply below_drewN') | (refine Below.trans ?_ (Below.mono (by assumption) (by first | exact Nat.le_refl _ | (simp; done) | (simp; omega) | omega))) | exact Below.refl _ _ | assumption))
  case ca3R1 => (first | (simp [Act.put]; done) | (simp [Act.put, *]; done))
  try dsimp only
  clear x0 x1 x2 x3 y0 y1 l3 l4 b3 b4
  refine wpW_branch [1, 8] (by kernel_rfl) (by simp) ?_
  intro w1 hg1 hS1
  try have z := Blk.gr z hg1
  try have hl2 := hl2.below hg1 hbb
  try have hbb := Nat.le_trans hbb (Below.size hg1)
  try (have zz := blk6 z; obtain ⟨z0, z1, z2, z3, z4, z5, zf⟩ := zz)
  try have lz := z.lt
  refine each_cons ?_ (each_cons ?_ (each_nil))
  · refine wpOp_go (by rfl) (Eq.refl _) (by go_simp; done) ?_
    intro K hK
    go_simp
    try simp only [Act.put]
    refine (copyArea_any l A c B pr pc lv _ (hR.out _ hS1) (by have := Below.size hS1; omega) hl hc hA.out).mono ?_
    rintro e ws1 ⟨v2, rfl, own2, hBs⟩
    obtain ⟨A2, c2, rfl, hl2, _, _⟩ := own_row2 own2
    obtain ⟨bb, hbbe⟩ : ∃ n, n = ws1.heap.size := ⟨_, rfl⟩
    rw [← hbbe] at hl2
    have hbb := Nat.le_of_eq hbbe
    try have z := Blk.gr z hBs
    refine hK _ _ (Below.trans hS1 (hBs.mono (Below.size hS1))) ?_
    clear hK K own2 hBs hbbe
    refine wpW_branch [4, 8] (by kernel_rfl) (by simp) ?_
    intro w2 hg2 hS2
    try have z := Blk.gr z hg2
    try have hl2 := hl2.below hg2 hbb
    try have hbb := Nat.le_trans hbb (Below.size hg2)
    try (have zz := blk6 z; obtain ⟨z0, z1, z2, z3, z4, z5, zf⟩ := zz)
    try have lz := z.lt
    refine each_cons ?_ (each_cons ?_ (each_nil))
    · refine wpOp_go (by rfl) (Eq.refl _) (by go_simp; done) ?_
      intro K hK
      go_simp
      try simp only [Act.put]
      refine (markOf_any l A2 c2 bb pr pc lv d0 d1 nm _ hl2 hbb (by omega) hnm).mono ?_
      rw [HV.out]
      rintro e w8 ⟨rfl, hB8⟩
      try have z := Blk.gr z hB8
      refine hK _ _ (Below.trans hS2 (hB8.mono (Below.size hS2))) ?_
      clear hK K hl2
      refine wpW_det (t' := ?ct5R2) 5 (by rfl) (by kernel_rfl) (NQ_free _) (by kernel_rfl) ?cw5R2 ?ch5R2 ?ca5R2 (Eq.refl _) ?cH5R2
      case cw5R2 => (go_simp; done)
      case ch5R2 =>
        intro ds w' hS K hK
        have hc := (bcell hS).1
        have hf := (bcell hS).2
        have hz := hS.size
        try simp at hz
        go_simp
        try go_bits
        first
          | exact hK _ hS (Gr.refl _)
          | exact hK _ (by repeat (first | (with_reducible exact Below.refl _ _) | (with_reducible assumption) | ((with_reducible refine Below.setCell ?_ ?_ _); rotate_left; · (first | exact Nat.le_refl _ | (simp; done) | (simp; omega) | omega)) | ((with_reducible refine Below.alloc ?_ ?_ _); rotate_left; · (first | exact Nat.le_refl _ | (simp; done) | (simp; omega) | omega)) | (with_reducible apply Below.drew) | (with_reducible apply below_drewN') | (refine Below.trans ?_ (Below.mono (by assumption) (by first | exact Nat.le_refl _ | (simp; done) | (simp; omega) | omega))) | exact Below.refl _ _ | assumption)) (by repeat (first | (with_reducible exact Below.refl _ _) | (with_reducible assumption) | ((with_reducible refine Below.setCell ?_ ?_ _); rotate_left; · (first | exact Nat.le_refl _ | (simp; done) | (simp; omega) | omega)) | ((with_reducible refine Below.alloc ?_ ?_ _); rotate_left; · (first | exact Nat.le_refl _ | (simp; done) | (simp; omega) | omega)) | (with_reducible apply Below.drew) | (with_reducible apply below_drewN') | (refine Below.trans ?_ (Below.mono (by assumption) (by first | exact Nat.le_refl _ | (simp; done) | (simp; omega) | omega))) | exact Below.refl _ _ | assumption))
      case ca5R2 => (first | (simp [Act.put]; done) | (simp [Act.put, *]; done))
      try dsimp only
      refine wpW_det (t' := ?ct6R2) 6 (by rfl) (by kernel_rfl) (NQ_free _) (by kernel_rfl) ?cw6R2 ?ch6R2 ?ca6R2 (Eq.refl _) ?cH6R2
      case cw6R2 => (go_simp; done)
      case ch6R2 =>
        intro ds w' hS K hK
        have hc := (bcell hS).1
        have hf := (bcell hS).2
        have hz := hS.size
        try simp at hz
        go_simp
        try go_bits
        first
          | exact hK _ hS (Gr.refl _)
          | exact hK _ (by repeat (first | (with_reducible exact Below.refl _ _) | (with_reducible assumption) | ((with_reducible refine Below.setCell ?_ ?_ _); rotate_left; · (first | exact Nat.le_refl _ | (simp; done) | (simp; omega) | omega)) | ((with_reducible refine Below.alloc ?_ ?_ _); rotate_left; · (first | exact Nat.le_refl _ | (simp; done) | (simp; omega) | omega)) | (with_reducible apply Below.drew) | (with_reducible apply below_drewN') | (refine Below.trans ?_ (Below.mono (by assumption) (by first | exact Nat.le_refl _ | (simp; done) | (simp; omega) | omega))) | exact Below.refl _ _ | assumption)) (by repeat (first | (with_reducible exact Below.refl _ _) | (with_reducible assumption) | ((with_reducible refine Below.setCell ?_ ?_ _); rotate_left; · (first | exact Nat.le_refl _ | (simp; done) | (simp; omega) | omega)) | ((with_reducible refine Below.alloc ?_ ?_ _); rotate_left; · (first | exact Nat.le_refl _ | (simp; done) | (simp; omega) | omega)) | (with_reducible apply Below.drew) | (with_reducible apply below_drewN') | (refine Below.trans ?_ (Below.mono (by assumption) (by first | exact Nat.le_refl _ | (simp; done) | (simp; omega) | omega))) | exact Below.refl _ _ | assumption))
      case ca6R2 => (first | (simp [Act.put]; done) | (simp [Act.put, *]; done))
      try dsimp only
      refine wpW_det (t' := ?ct7R2) 7 (by rfl) (by kernel_rfl) (NQ_free _) (by kernel_rfl) ?cw7R2 ?ch7R2 ?ca7R2 (Eq.refl _) ?cH7R2
      case cw7R2 => (go_simp; done)
      case ch7R2 =>
        intro ds w' hS K hK
        have hc := (bcell hS).1
        have hf := (bcell hS).2
        have hz := hS.size
        try simp at hz
        go_simp
        try go_bits
        first
          | exact hK _ hS (Gr.refl _)
          | exact hK _ (by repeat (first | (with_reducible exact Below.refl _ _) | (with_reducible assumption) | ((with_reducible refine Below.setCell ?_ ?_ _); rotate_left; · (first | exact Nat.le_refl _ | (simp; done) | (simp; omega) | omega)) | ((with_reducible refine Below.alloc ?_ ?_ _); rotate_left; · (first | exact Nat.le_refl _ | (simp; done) | (simp; omega) | omega)) | (with_reducible apply Below.drew) | (with_reducible apply below_drewN') | (refine Below.trans ?_ (Below.mono (by assumption) (by first | exact Nat.le_refl _ | (simp; done) | (simp; omega) | omega))) | exact Below.refl _ _ | assumption)) (by repeat (first | (with_reducible exact Below.refl _ _) | (with_reducible assumption) | ((with_reducible refine Below.setCell ?_ ?_ _); rotate_left; · (first | exact Nat.le_refl _ | (simp; done) | (simp; omega) | omega)) | ((with_reducible refine Below.alloc ?_ ?_ _); rotate_left; · (first | exact Nat.le_refl _ | (simp; done) | (simp; omega) | omega)) | (with_reducible apply Below.drew) | (with_reducible apply below_drewN') | (refine Below.trans ?_ (Below.mono (by assumption) (by first | exact Nat.le_refl _ | (simp; done) | (simp; omega) | omega))) | exact Below.refl _ _ | assumption))
      case ca7R2 => (first | (simp [Act.put]; done) | (simp [Act.put, *]; done))
      try dsimp only
      refine wpW_branch [8] (by kernel_rfl) (by simp) ?_
      intro w3 hg3 hS3
      try have z := Blk.gr z hg3
      try have hl2 := hl2.below hg3 hbb
      try have hbb := Nat.le_trans hbb (Below.size hg3)
      try (have zz := blk6 z; obtain ⟨z0, z1, z2, z3, z4, z5, zf⟩ := zz)
      try have lz := z.lt
      refine each_cons ?_ (each_nil)
      · refine wpOp_go (by rfl) (Eq.refl _) (by go_simp; done) ?_
        intro K hK
        go_simp
        try simp only [Act.put]
        have z := Blk.new w3 79 (mkC mk0)
        have hzp := Below.size hS3
        try have hl2 := hl2.below ((Below.refl w3.heap.size w3).alloc (Nat.le_refl _) (.cells (mkC mk0) 79 (0, 0))) hbb
        try have hbb := Nat.le_trans hbb (show w3.heap.size ≤ (w3.alloc (.cells (mkC mk0) 79 (0, 0))).heap.size by simp)
        refine hK _ _ (Below.alloc hS3 (Below.size hS3) _) ?_
        clear hK K
        refine wpW_branch [9] (by kernel_rfl) (by simp) ?_
        intro w4 hg4 hS4
        try have z := Blk.gr z hg4
        try have hl2 := hl2.below hg4 hbb
        try have hbb := Nat.le_trans hbb (Below.size hg4)
        try (have zz := blk6 z; obtain ⟨z0, z1, z2, z3, z4, z5, zf⟩ := zz)
        try have lz := z.lt
        refine each_cons ?_ (each_nil)
        · refine wpOp_go (by rfl) (Eq.refl _) (by go_simp; done) ?_
          intro K hK
          go_simp
          try simp only [Act.put]
          have z := z.set6 (.string M.nm) (.int .i64 M.al) (.int .i64 M.ah) (.int .i64 M.dl) (.int .i64 M.dh) (.int .i64 M.lv)
          refine hK _ _ (Below.set6 hS4 hzp) ?_
          clear hK K z0 z1 z2 z3 z4 z5 zf
          refine wpW_det (t' := ?ct10R3) 10 (by rfl) (by kernel_rfl) (NQ_free _) (by kernel_rfl) ?cw10R3 ?ch10R3 ?ca10R3 (Eq.refl _) ?cH10R3
          case cw10R3 => (go_simp; done)
          case ch10R3 =>
            intro ds w' hS K hK
            have hc := (bcell hS).1
            have hf := (bcell hS).2
            have hz := hS.size
            try simp at hz
            go_simp
            try go_bits
            first
              | exact hK _ hS (Gr.refl _)
              | exact hK _ (by repeat (first | (with_reducible exact Below.refl _ _) | (with_reducible assumption) | ((with_reducible refine Below.setCell ?_ ?_ _); rotate_left; · (first | exact Nat.le_refl _ | (simp; done) | (simp; omega) | omega)) | ((with_reducible refine Below.alloc ?_ ?_ _); rotate_left; · (first | exact Nat.le_refl _ | (simp; done) | (simp; omega) | omega)) | (with_reducible apply Below.drew) | (with_reducible apply below_drewN') | (refine Below.trans ?_ (Below.mono (by assumption) (by first | exact Nat.le_refl _ | (simp; done) | (simp; omega) | omega))) | exact Below.refl _ _ | assumption)) (by repeat (first | (with_reducible exact Below.refl _ _) | (with_reducible assumption) | ((with_reducible refine Below.setCell ?_ ?_ _); rotate_left; · (first | exact Nat.le_refl _ | (simp; done) | (simp; omega) | omega)) | ((with_reducible refine Below.alloc ?_ ?_ _); rotate_left; · (first | exact Nat.le_refl _ | (simp; done) | (simp; omega) | omega)) | (with_reducible apply Below.drew) | (with_reducible apply below_drewN') | (refine Below.trans ?_ (Below.mono (by assumption) (by first | exact Nat.le_refl _ | (simp; done) | (simp; omega) | omega))) | exact Below.refl _ _ | assumption))
          case ca10R3 => (first | (simp [Act.put]; done) | (simp [Act.put, *]; done))
          try dsimp only
          refine wpW_end (by kernel_rfl) ?_
          intro we hg hS
          unfold NQ
          dsimp only
          replace z := Blk.gr z hg
          exact H.out _ _ _ _ _ _ _ _ _ we z hzp hS
    · refine wpOp_go (by rfl) (Eq.refl _) (by go_simp; done) ?_
      intro K hK
      go_simp
      try simp only [Act.put]
      have z := Blk.new w2 79 (mkC mk0)
      have hzp := Below.size hS2
      try have hl2 := hl2.below ((Below.refl w2.heap.size w2).alloc (Nat.le_refl _) (.cells (mkC mk0) 79 (0, 0))) hbb
      try have hbb := Nat.le_trans hbb (show w2.heap.size ≤ (w2.alloc (.cells (mkC mk0) 79 (0, 0))).heap.size by simp)
      refine hK _ _ (Below.alloc hS2 (Below.size hS2) _) ?_
      clear hK K
      refine wpW_branch [4] (by kernel_rfl) (by simp) ?_
      intro w3 hg3 hS3
      try have z := Blk.gr z hg3
      try have hl2 := hl2.below hg3 hbb
      try have hbb := Nat.le_trans hbb (Below.size hg3)
      try (have zz := blk6 z; obtain ⟨z0, z1, z2, z3, z4, z5, zf⟩ := zz)
      try have lz := z.lt
      refine each_cons ?_ (each_nil)
      · refine wpOp_go (by rfl) (Eq.refl _) (by go_simp; done) ?_
        intro K hK
        go_simp
        try simp only [Act.put]
        refine (markOf_any l A2 c2 bb pr pc lv d0 d1 nm _ hl2 hbb (by omega) hnm).mono ?_
        rw [HV.out]
        rintro e w8 ⟨rfl, hB8⟩
        try have z := Blk.gr z hB8
        refine hK _ _ (Below.trans hS3 (hB8.mono (Below.size hS3))) ?_
        clear hK K hl2
        refine wpW_det (t' := ?ct5R4) 5 (by rfl) (by kernel_rfl) (NQ_free _) (by kernel_rfl) ?cw5R4 ?ch5R4 ?ca5R4 (Eq.refl _) ?cH5R4
        case cw5R4 => (go_simp; done)
        case ch5R4 =>
          intro ds w' hS K hK
          have hc := (bcell hS).1
          have hf := (bcell hS).2
          have hz := hS.size
          try simp at hz
          go_simp
          try go_bits
          first
            | exact hK _ hS (Gr.refl _)
            | exact hK _ (by repeat (first | (with_reducible exact Below.refl _ _) | (with_reducible assumption) | ((with_reducible refine Below.setCell ?_ ?_ _); rotate_left; · (first | exact Nat.le_refl _ | (simp; done) | (simp; omega) | omega)) | ((with_reducible refine Below.alloc ?_ ?_ _); rotate_left; · (first | exact Nat.le_refl _ | (simp; done) | (simp; omega) | omega)) | (with_reducible apply Below.drew) | (with_reducible apply below_drewN') | (refine Below.trans ?_ (Below.mono (by assumption) (by first | exact Nat.le_refl _ | (simp; done) | (simp; omega) | omega))) | exact Below.refl _ _ | assumption)) (by repeat (first | (with_reducible exact Below.refl _ _) | (with_reducible assumption) | ((with_reducible refine Below.setCell ?_ ?_ _); rotate_left; · (first | exact Nat.le_refl _ | (simp; done) | (simp; omega) | omega)) | ((with_reducible refine Below.alloc ?_ ?_ _); rotate_left; · (first | exact Nat.le_refl _ | (simp; done) | (simp; omega) | omega)) | (with_reducible apply Below.drew) | (with_reducible apply below_drewN') | (refine Below.trans ?_ (Below.mono (by assumption) (by first | exact Nat.le_refl _ | (simp; done) | (simp; omega) | omega))) | exact Below.refl _ _ | assumption))
        case ca5R4 => (first | (simp [Act.put]; done) | (simp [Act.put, *]; done))
        try dsimp only
        refine wpW_det (t' := ?ct6R4) 6 (by rfl) (by kernel_rfl) (NQ_free _) (by kernel_rfl) ?cw6R4 ?ch6R4 ?ca6R4 (Eq.refl _) ?cH6R4
        case cw6R4 => (go_simp; done)
        case ch6R4 =>
          intro ds w' hS K hK
          have hc := (bcell hS).1
          have hf := (bcell hS).2
          have hz := hS.size
          try simp at hz
          go_simp
          try go_bits
          first
            | exact hK _ hS (Gr.refl _)
            | exact hK _ (by repeat (first | (with_reducible exact Below.refl _ _) | (with_reducible assumption) | ((with_reducible refine Below.setCell ?_ ?_ _); rotate_left; · (first | exact Nat.le_refl _ | (simp; done) | (simp; omega) | omega)) | ((with_reducible refine Below.alloc ?_ ?_ _); rotate_left; · (first | exact Nat.le_refl _ | (simp; done) | (simp; omega) | omega)) | (with_reducible apply Below.drew) | (with_reducible apply below_drewN') | (refine Below.trans ?_ (Below.mono (by assumption) (by first | exact Nat.le_refl _ | (simp; done) | (simp; omega) | omega))) | exact Below.refl _ _ | assumption)) (by repeat (first | (with_reducible exact Below.refl _ _) | (with_reducible assumption) | ((with_reducible refine Below.setCell ?_ ?_ _); rotate_left; · (first | exact Nat.le_refl _ | (simp; done) | (simp; omega) | omega)) | ((with_reducible refine Below.alloc ?_ ?_ _); rotate_left; · (first | exact Nat.le_refl _ | (simp; done) | (simp; omega) | omega)) | (with_reducible apply Below.drew) | (with_reducible apply below_drewN') | (refine Below.trans ?_ (Below.mono (by assumption) (by first | exact Nat.le_refl _ | (simp; done) | (simp; omega) | omega))) | exact Below.refl _ _ | assumption))
        case ca6R4 => (first | (simp [Act.put]; done) | (simp [Act.put, *]; done))
        try dsimp only
        refine wpW_det (t' := ?ct7R4) 7 (by rfl) (by kernel_rfl) (NQ_free _) (by kernel_rfl) ?cw7R4 ?ch7R4 ?ca7R4 (Eq.refl _) ?cH7R4
        case cw7R4 => (go_simp; done)
        case ch7R4 =>
          intro ds w' hS K hK
          have hc := (bcell hS).1
          have hf := (bcell hS).2
          have hz := hS.size
          try simp at hz
          go_simp
          try go_bits
          first
            | exact hK _ hS (Gr.refl _)
            | exact hK _ (by repeat (first | (with_reducible exact Below.refl _ _) | (with_reducible assumption) | ((with_reducible refine Below.setCell ?_ ?_ _); rotate_left; · (first | exact Nat.le_refl _ | (simp; done) | (simp; omega) | omega)) | ((with_reducible refine Below.alloc ?_ ?_ _); rotate_left; · (first | exact Nat.le_refl _ | (simp; done) | (simp; omega) | omega)) | (with_reducible apply Below.drew) | (with_reducible apply below_drewN') | (refine Below.trans ?_ (Below.mono (by assumption) (by first | exact Nat.le_refl _ | (simp; done) | (simp; omega) | omega))) | exact Below.refl _ _ | assumption)) (by repeat (first | (with_reducible exact Below.refl _ _) | (with_reducible assumption) | ((with_reducible refine Below.setCell ?_ ?_ _); rotate_left; · (first | exact Nat.le_refl _ | (simp; done) | (simp; omega) | omega)) | ((with_reducible refine Below.alloc ?_ ?_ _); rotate_left; · (first | exact Nat.le_refl _ | (simp; done) | (simp; omega) | omega)) | (with_reducible apply Below.drew) | (with_reducible apply below_drewN') | (refine Below.trans ?_ (Below.mono (by assumption) (by first | exact Nat.le_refl _ | (simp; done) | (simp; omega) | omega))) | exact Below.refl _ _ | assumption))
        case ca7R4 => (first | (simp [Act.put]; done) | (simp [Act.put, *]; done))
        try dsimp only
        refine wpW_branch [9] (by kernel_rfl) (by simp) ?_
        intro w4 hg4 hS4
        try have z := Blk.gr z hg4
        try have hl2 := hl2.below hg4 hbb
        try have hbb := Nat.le_trans hbb (Below.size hg4)
        try (have zz := blk6 z; obtain ⟨z0, z1, z2, z3, z4, z5, zf⟩ := zz)
        try have lz := z.lt
        refine each_cons ?_ (each_nil)
        · refine wpOp_go (by rfl) (Eq.refl _) (by go_simp; done) ?_
          intro K hK
          go_simp
          try simp only [Act.put]
          have z := z.set6 (.string M.nm) (.int .i64 M.al) (.int .i64 M.ah) (.int .i64 M.dl) (.int .i64 M.dh) (.int .i64 M.lv)
          refine hK _ _ (Below.set6 hS4 hzp) ?_
          clear hK K z0 z1 z2 z3 z4 z5 zf
          refine wpW_det (t' := ?ct10R5) 10 (by rfl) (by kernel_rfl) (NQ_free _) (by kernel_rfl) ?cw10R5 ?ch10R5 ?ca10R5 (Eq.refl _) ?cH10R5
          case cw10R5 => (go_simp; done)
          case ch10R5 =>
            intro ds w' hS K hK
            have hc := (bcell hS).1
            have hf := (bcell hS).2
            have hz := hS.size
            try simp at hz
            go_simp
            try go_bits
            first
              | exact hK _ hS (Gr.refl _)
              | exact hK _ (by repeat (first | (with_reducible exact Below.refl _ _) | (with_reducible assumption) | ((with_reducible refine Below.setCell ?_ ?_ _); rotate_left; · (first | exact Nat.le_refl _ | (simp; done) | (simp; omega) | omega)) | ((with_reducible refine Below.alloc ?_ ?_ _); rotate_left; · (first | exact Nat.le_refl _ | (simp; done) | (simp; omega) | omega)) | (with_reducible apply Below.drew) | (with_reducible apply below_drewN') | (refine Below.trans ?_ (Below.mono (by assumption) (by first | exact Nat.le_refl _ | (simp; done) | (simp; omega) | omega))) | exact Below.refl _ _ | assumption)) (by repeat (first | (with_reducible exact Below.refl _ _) | (with_reducible assumption) | ((with_reducible refine Below.setCell ?_ ?_ _); rotate_left; · (first | exact Nat.le_refl _ | (simp; done) | (simp; omega) | omega)) | ((with_reducible refine Below.alloc ?_ ?_ _); rotate_left; · (first | exact Nat.le_refl _ | (simp; done) | (simp; omega) | omega)) | (with_reducible apply Below.drew) | (with_reducible apply below_drewN') | (refine Below.trans ?_ (Below.mono (by assumption) (by first | exact Nat.le_refl _ | (simp; done) | (simp; omega) | omega))) | exact Below.refl _ _ | assumption))
          case ca10R5 => (first | (simp [Act.put]; done) | (simp [Act.put, *]; done))
          try dsimp only
          refine wpW_end (by kernel_rfl) ?_
          intro we hg hS
          unfold NQ
          dsimp only
          replace z := Blk.gr z hg
          exact H.out _ _ _ _ _ _ _ _ _ we z hzp hS
  · refine wpOp_go (by rfl) (Eq.refl _) (by go_simp; done) ?_
    intro K hK
    go_simp
    try simp only [Act.put]
    have z := Blk.new w1 79 (mkC mk0)
    have hzp := Below.size hS1
    try have hl2 := hl2.below ((Below.refl w1.heap.size w1).alloc (Nat.le_refl _) (.cells (mkC mk0) 79 (0, 0))) hbb
    try have hbb := Nat.le_trans hbb (show w1.heap.size ≤ (w1.alloc (.cells (mkC mk0) 79 (0, 0))).heap.size by simp)
    refine hK _ _ (Below.alloc hS1 (Below.size hS1) _) ?_
    clear hK K
    refine wpW_branch [1] (by kernel_rfl) (by simp) ?_
    intro w2 hg2 hS2
    try have z := Blk.gr z hg2
    try have hl2 := hl2.below hg2 hbb
    try have hbb := Nat.le_trans hbb (Below.size hg2)
    try (have zz := blk6 z; obtain ⟨z0, z1, z2, z3, z4, z5, zf⟩ := zz)
    try have lz := z.lt
    refine each_cons ?_ (each_nil)
    · refine wpOp_go (by rfl) (Eq.refl _) (by go_simp; done) ?_
      intro K hK
      go_simp
      try simp only [Act.put]
      refine (copyArea_any l A c B pr pc lv _ (hR.out _ hS2) (by have := Below.size hS2; omega) hl hc hA.out).mono ?_
      rintro e ws1 ⟨v2, rfl, own2, hBs⟩
      obtain ⟨A2, c2, rfl, hl2, _, _⟩ := own_row2 own2
      obtain ⟨bb, hbbe⟩ : ∃ n, n = ws1.heap.size := ⟨_, rfl⟩
      rw [← hbbe] at hl2
      have hbb := Nat.le_of_eq hbbe
      try have z := Blk.gr z hBs
      refine hK _ _ (Below.trans hS2 (hBs.mono (Below.size hS2))) ?_
      clear hK K own2 hBs hbbe
      refine wpW_branch [4] (by kernel_rfl) (by simp) ?_
      intro w3 hg3 hS3
      try have z := Blk.gr z hg3
      try have hl2 := hl2.below hg3 hbb
      try have hbb := Nat.le_trans hbb (Below.size hg3)
      try (have zz := blk6 z; obtain ⟨z0, z1, z2, z3, z4, z5, zf⟩ := zz)
      try have lz := z.lt
      refine each_cons ?_ (each_nil)
      · refine wpOp_go (by rfl) (Eq.refl _) (by go_simp; done) ?_
        intro K hK
        go_simp
        try simp only [Act.put]
        refine (markOf_any l A2 c2 bb pr pc lv d0 d1 nm _ hl2 hbb (by omega) hnm).mono ?_
        rw [HV.out]
        rintro e w8 ⟨rfl, hB8⟩
        try have z := Blk.gr z hB8
        refine hK _ _ (Below.trans hS3 (hB8.mono (Below.size hS3))) ?_
        clear hK K hl2
        refine wpW_det (t' := ?ct5R6) 5 (by rfl) (by kernel_rfl) (NQ_free _) (by kernel_rfl) ?cw5R6 ?ch5R6 ?ca5R6 (Eq.refl _) ?cH5R6
        case cw5R6 => (go_simp; done)
        case ch5R6 =>
          intro ds w' hS K hK
          have hc := (bcell hS).1
          have hf := (bcell hS).2
          have hz := hS.size
          try simp at hz
          go_simp
          try go_bits
          first
            | exact hK _ hS (Gr.refl _)
            | exact hK _ (by repeat (first | (with_reducible exact Below.refl _ _) | (with_reducible assumption) | ((with_reducible refine Below.setCell ?_ ?_ _); rotate_left; · (first | exact Nat.le_refl _ | (simp; done) | (simp; omega) | omega)) | ((with_reducible refine Below.alloc ?_ ?_ _); rotate_left; · (first | exact Nat.le_refl _ | (simp; done) | (simp; omega) | omega)) | (with_reducible apply Below.drew) | (with_reducible apply below_drewN') | (refine Below.trans ?_ (Below.mono (by assumption) (by first | exact Nat.le_refl _ | (simp; done) | (simp; omega) | omega))) | exact Below.refl _ _ | assumption)) (by repeat (first | (with_reducible exact Below.refl _ _) | (with_reducible assumption) | ((with_reducible refine Below.setCell ?_ ?_ _); rotate_left; · (first | exact Nat.le_refl _ | (simp; done) | (simp; omega) | omega)) | ((with_reducible refine Below.alloc ?_ ?_ _); rotate_left; · (first | exact Nat.le_refl _ | (simp; done) | (simp; omega) | omega)) | (with_reducible apply Below.drew) | (with_reducible apply below_drewN') | (refine Below.trans ?_ (Below.mono (by assumption) (by first | exact Nat.le_refl _ | (simp; done) | (simp; omega) | omega))) | exact Below.refl _ _ | assumption))
        case ca5R6 => (first | (simp [Act.put]; done) | (simp [Act.put, *]; done))
        try dsimp only
        refine wpW_det (t' := ?ct6R6) 6 (by rfl) (by kernel_rfl) (NQ_free _) (by kernel_rfl) ?cw6R6 ?ch6R6 ?ca6R6 (Eq.refl _) ?cH6R6
        case cw6R6 => (go_simp; done)
        case ch6R6 =>
          intro ds w' hS K hK
          have hc := (bcell hS).1
          have hf := (bcell hS).2
          have hz := hS.size
          try simp at hz
          go_simp
          try go_bits
          first
            | exact hK _ hS (Gr.refl _)
            | exact hK _ (by repeat (first | (with_reducible exact Below.refl _ _) | (with_reducible assumption) | ((with_reducible refine Below.setCell ?_ ?_ _); rotate_left; · (first | exact Nat.le_refl _ | (simp; done) | (simp; omega) | omega)) | ((with_reducible refine Below.alloc ?_ ?_ _); rotate_left; · (first | exact Nat.le_refl _ | (simp; done) | (simp; omega) | omega)) | (with_reducible apply Below.drew) | (with_reducible apply below_drewN') | (refine Below.trans ?_ (Below.mono (by assumption) (by first | exact Nat.le_refl _ | (simp; done) | (simp; omega) | omega))) | exact Below.refl _ _ | assumption)) (by repeat (first | (with_reducible exact Below.refl _ _) | (with_reducible assumption) | ((with_reducible refine Below.setCell ?_ ?_ _); rotate_left; · (first | exact Nat.le_refl _ | (simp; done) | (simp; omega) | omega)) | ((with_reducible refine Below.alloc ?_ ?_ _); rotate_left; · (first | exact Nat.le_refl _ | (simp; done) | (simp; omega) | omega)) | (with_reducible apply Below.drew) | (with_reducible apply below_drewN') | (refine Below.trans ?_ (Below.mono (by assumption) (by first | exact Nat.le_refl _ | (simp; done) | (simp; omega) | omega))) | exact Below.refl _ _ | assumption))
        case ca6R6 => (first | (simp [Act.put]; done) | (simp [Act.put, *]; done))
        try dsimp only
        refine wpW_det (t' := ?ct7R6) 7 (by rfl) (by kernel_rfl) (NQ_free _) (by kernel_rfl) ?cw7R6 ?ch7R6 ?ca7R6 (Eq.refl _) ?cH7R6
        case cw7R6 => (go_simp; done)
        case ch7R6 =>
          intro ds w' hS K hK
          have hc := (bcell hS).1
          have hf := (bcell hS).2
          have hz := hS.size
          try simp at hz
          go_simp
          try go_bits
          first
            | exact hK _ hS (Gr.refl _)
            | exact hK _ (by repeat (first | (with_reducible exact Below.refl _ _) | (with_reducible assumption) | ((with_reducible refine Below.setCell ?_ ?_ _); rotate_left; · (first | exact Nat.le_refl _ | (simp; done) | (simp; omega) | omega)) | ((with_reducible refine Below.alloc ?_ ?_ _); rotate_left; · (first | exact Nat.le_refl _ | (simp; done) | (simp; omega) | omega)) | (with_reducible apply Below.drew) | (with_reducible apply below_drewN') | (refine Below.trans ?_ (Below.mono (by assumption) (by first | exact Nat.le_refl _ | (simp; done) | (simp; omega) | omega))) | exact Below.refl _ _ | assumption)) (by repeat (first | (with_reducible exact Below.refl _ _) | (with_reducible assumption) | ((with_reducible refine Below.setCell ?_ ?_ _); rotate_left; · (first | exact Nat.le_refl _ | (simp; done) | (simp; omega) | omega)) | ((with_reducible refine Below.alloc ?_ ?_ _); rotate_left; · (first | exact Nat.le_refl _ | (simp; done) | (simp; omega) | omega)) | (with_reducible apply Below.drew) | (with_reducible apply below_drewN') | (refine Below.trans ?_ (Below.mono (by assumption) (by first | exact Nat.le_refl _ | (simp; done) | (simp; omega) | omega))) | exact Below.refl _ _ | assumption))
        case ca7R6 => (first | (simp [Act.put]; done) | (simp [Act.put, *]; done))
        try dsimp only
        refine wpW_branch [9] (by kernel_rfl) (by simp) ?_
        intro w4 hg4 hS4
        try have z := Blk.gr z hg4
        try have hl2 := hl2.below hg4 hbb
        try have hbb := Nat.le_trans hbb (Below.size hg4)
        try (have zz := blk6 z; obtain ⟨z0, z1, z2, z3, z4, z5, zf⟩ := zz)
        try have lz := z.lt
        refine each_cons ?_ (each_nil)
        · refine wpOp_go (by rfl) (Eq.refl _) (by go_simp; done) ?_
          intro K hK
          go_simp
          try simp only [Act.put]
          have z := z.set6 (.string M.nm) (.int .i64 M.al) (.int .i64 M.ah) (.int .i64 M.dl) (.int .i64 M.dh) (.int .i64 M.lv)
          refine hK _ _ (Below.set6 hS4 hzp) ?_
          clear hK K z0 z1 z2 z3 z4 z5 zf
          refine wpW_det (t' := ?ct10R7) 10 (by rfl) (by kernel_rfl) (NQ_free _) (by kernel_rfl) ?cw10R7 ?ch10R7 ?ca10R7 (Eq.refl _) ?cH10R7
          case cw10R7 => (go_simp; done)
          case ch10R7 =>
            intro ds w' hS K hK
            have hc := (bcell hS).1
            have hf := (bcell hS).2
            have hz := hS.size
            try simp at hz
            go_simp
            try go_bits
            first
              | exact hK _ hS (Gr.refl _)
              | exact hK _ (by repeat (first | (with_reducible exact Below.refl _ _) | (with_reducible assumption) | ((with_reducible refine Below.setCell ?_ ?_ _); rotate_left; · (first | exact Nat.le_refl _ | (simp; done) | (simp; omega) | omega)) | ((with_reducible refine Below.alloc ?_ ?_ _); rotate_left; · (first | exact Nat.le_refl _ | (simp; done) | (simp; omega) | omega)) | (with_reducible apply Below.drew) | (with_reducible apply below_drewN') | (refine Below.trans ?_ (Below.mono (by assumption) (by first | exact Nat.le_refl _ | (simp; done) | (simp; omega) | omega))) | exact Below.refl _ _ | assumption)) (by repeat (first | (with_reducible exact Below.refl _ _) | (with_reducible assumption) | ((with_reducible refine Below.setCell ?_ ?_ _); rotate_left; · (first | exact Nat.le_refl _ | (simp; done) | (simp; omega) | omega)) | ((with_reducible refine Below.alloc ?_ ?_ _); rotate_left; · (first | exact Nat.le_refl _ | (simp; done) | (simp; omega) | omega)) | (with_reducible apply Below.drew) | (with_reducible apply below_drewN') | (refine Below.trans ?_ (Below.mono (by assumption) (by first | exact Nat.le_refl _ | (simp; done) | (simp; omega) | omega))) | exact Below.refl _ _ | assumption))
          case ca10R7 => (first | (simp [Act.put]; done) | (simp [Act.put, *]; done))
          try dsimp only
          refine wpW_end (by kernel_rfl) ?_
          intro we hg hS
          unfold NQ
          dsimp only
          replace z := Blk.gr z hg
          exact H.out _ _ _ _ _ _ _ _ _ we z hzp hS

set_option maxRecDepth 100000 in
set_option maxHeartbeats 4000000 in
theorem flawMarks_any (l : List (Int × Int)) (A : Option Addr) (c : Nat) (pr pc lv d0 d1 : Int) (nm : ByteArray) (w : World) (hA : A = none → c = 0) (hR : Row w w.heap.size 2 A l.length (cellsC l)) (hc : l.length ≤ c) (_hcm : c ≤ 9223372036854775807) (hnm : nm.size ≤ 9223372036854775807) :
    Calls Tryz.prog 15 #[.agg #[.slice A l.length c, .int .i64 pr, .int .i64 pc, .int .i64 lv], .agg #[.int .i64 d0, .int .i64 d1], .string nm] w fun e w' => e = .returned (.bool true) ∧ Below w.heap.size w w' := by
  have HNIL := Lib.hid hA; clear hA
  have b3 := (Blk.new w 91 #[.slice A l.length c, .int .i64 pr, .int .i64 pc, .int .i64 lv]).alloc (.cells #[.int .i64 d0, .int .i64 d1] 85)
  have b4 := Blk.new (w.alloc (.cells #[.slice A l.length c, .int .i64 pr, .int .i64 pc, .int .i64 lv] 91)) 85 #[.int .i64 d0, .int .i64 d1]
  have hBB : Below w.heap.size w ((w.alloc (.cells #[.slice A l.length c, .int .i64 pr, .int .i64 pc, .int .i64 lv] 91)).alloc (.cells #[.int .i64 d0, .int .i64 d1] 85)) := (by repeat (first | (with_reducible exact Below.refl _ _) | (with_reducible assumption) | ((with_reducible refine Below.setCell ?_ ?_ _); rotate_left; · (first | exact Nat.le_refl _ | (simp; done) | (simp; omega) | omega)) | ((with_reducible refine Below.alloc ?_ ?_ _); rotate_left; · (first | exact Nat.le_refl _ | (simp; done) | (simp; omega) | omega)) | (with_reducible apply Below.drew) | (with_reducible apply below_drewN') | (refine Below.trans ?_ (Below.mono (by assumption) (by first | exact Nat.le_refl _ | (simp; done) | (simp; omega) | omega))) | exact Below.refl _ _ | assumption))
  simp only [World.size_alloc] at b4
  go_enter Tryz.func15, Tryz.ntmps15
  go_wp2_with fail
  obtain ⟨W, hW⟩ : ∃ W, (w.alloc (.cells #[.slice A l.length c, .int .i64 pr, .int .i64 pc, .int .i64 lv] 91)).alloc (.cells #[.int .i64 d0, .int .i64 d1] 85) = W := ⟨_, rfl⟩
  rw [hW] at b3 b4 hBB ⊢
  clear hW
  refine (awake_any _).mono ?_
  rintro e w1 ⟨rfl, hB1⟩
  replace b3 := b3.gr hB1
  replace b4 := b4.gr hB1
  replace hBB := hBB.trans (hB1.mono (Below.size hBB))
  clear hB1
  obtain ⟨x0, x1, x2, x3, f3⟩ := blk4 b3
  obtain ⟨y0, y1, f4⟩ := blk2c b4
  have n34 : w.heap.size ≠ w.heap.size + 1 := by omega
  by_cases h1 : 40 < l.length ∧ l.length ≤ 4096
  · have g1 : decide ((40 : Int) < (l.length : Int)) = true := by simp; omega
    have g2 : decide ((l.length : Int) ≤ 4096) = true := by simp; omega
    go_wp2
    go_ret
    exact ⟨rfl, hBB⟩
  by_cases h2 : 4100 < l.length
  · have g1 : decide ((40 : Int) < (l.length : Int)) = true := by simp; omega
    have g2 : decide ((l.length : Int) ≤ 4096) = false := by simp; omega
    have g3 : decide ((4100 : Int) < (l.length : Int)) = true := by simp; omega
    go_wp2
    go_ret
    exact ⟨rfl, hBB⟩
  have g3 : decide ((4100 : Int) < (l.length : Int)) = false := by simp; omega
  have hl : l.length ≤ 4100 := by omega
  obtain ⟨M, er, hV⟩ : ∃ M er, markOfV l d0 d1 nm lv = (M, er) := ⟨_, _, rfl⟩
  have HV := Lib.hid hV; clear hV
  have hq := eq_mark_same M
  by_cases h3 : 20 < nm.size
  · have g4 : decide ((20 : Int) < (nm.size : Int)) = true := by simp; omega
    by_cases h4 : 40 < l.length
    · have g1 : decide ((40 : Int) < (l.length : Int)) = true := by simp; omega
      have g2 : decide ((l.length : Int) ≤ 4096) = false := by simp; omega
      go_wp2
      go_ret
      exact ⟨rfl, hBB⟩
    · have g1 : decide ((40 : Int) < (l.length : Int)) = false := by simp; omega
      go_wp2
      go_ret
      exact ⟨rfl, hBB⟩
  have g4 : decide ((20 : Int) < (nm.size : Int)) = false := by simp; omega
  by_cases h4 : 40 < l.length
  case pos =>
    have g1 : decide ((40 : Int) < (l.length : Int)) = true := by simp; omega
    have g2 : decide ((l.length : Int) ≤ 4096) = false := by simp; omega
    have hnm20 : nm.size ≤ 20 := by omega
    clear h1 h2 h3 h4
    go_upto_region 5 with fail
    clear x0 x1 x2 x3 f3 y0 y1 f4
    have HL : Hid (∀ w', Below w1.heap.size w1 w' → Row w' w.heap.size 2 A l.length (cellsC l)) := Lib.hid (fun w' h => hR.below (hBB.trans (h.mono (Below.size hBB))) (Nat.le_refl _))
    have hzw := Below.size hBB
    refine marksReg5 l A c w.heap.size pr pc lv d0 d1 nm HL hzw hc HNIL (by omega) (by omega) b3 b4 M er HV _ ?_
    intro t34 t35 t36 t37 t38 t39 t40 t41 z wz bz hzz hBz
    try dsimp only
    have n3z : w.heap.size + 1 ≠ z := by have := b4.lt; omega
    replace b3 := b3.gr hBz
    replace b4 := b4.gr hBz
    replace hBB := hBB.trans (hBz.mono hzw)
    clear hBz HL
    have l_b3 := b3.lt
    obtain ⟨x0, x1, x2, x3, f3⟩ := blk4 b3
    have l_b4 := b4.lt
    obtain ⟨y0, y1, f4⟩ := blk2c b4
    have l_bz := bz.lt
    obtain ⟨z0, z1, z2, z3, z4, z5, fz⟩ := blk6 bz
    go_wp2_with fail
    refine (refMarkOf_any l A c w.heap.size pr pc lv d0 d1 nm _ (hR.below hBB (Nat.le_refl _)) (Below.size hBB) (by omega) (by omega)).mono ?_
    rw [HV.out]
    rintro e wc1 ⟨rfl, hBc1⟩
    replace b3 := b3.gr hBc1
    replace b4 := b4.gr hBc1
    replace bz := bz.gr hBc1
    replace hBB := hBB.trans (Below.mono hBc1 (Below.size hBB))
    clear hBc1
    clear l_b3 x0 x1 x2 x3 f3 l_b4 y0 y1 f4 l_bz z0 z1 z2 z3 z4 z5 fz
    have l_b3 := b3.lt
    have l_b4 := b4.lt
    have l_bz := bz.lt
    obtain ⟨x0, x1, x2, x3, f3⟩ := blk4 b3
    obtain ⟨y0, y1, f4⟩ := blk2c b4
    obtain ⟨z0, z1, z2, z3, z4, z5, fz⟩ := blk6 bz
    go_upto_region 7 with fail
    have b9 := Blk.new wc1 79 (mkC M)
    replace b3 := b3.alloc (.cells (mkC M) 79 (0, 0))
    replace b4 := b4.alloc (.cells (mkC M) 79 (0, 0))
    replace bz := bz.alloc (.cells (mkC M) 79 (0, 0))
    replace hBB := hBB.alloc (Below.size hBB) (.cells (mkC M) 79 (0, 0))
    clear l_b3 x0 x1 x2 x3 f3 l_b4 y0 y1 f4 l_bz z0 z1 z2 z3 z4 z5 fz
    have l_b3 := b3.lt
    have l_b4 := b4.lt
    have l_bz := bz.lt
    have l_b9 := b9.lt
    obtain ⟨x0, x1, x2, x3, f3⟩ := blk4 b3
    obtain ⟨y0, y1, f4⟩ := blk2c b4
    obtain ⟨z0, z1, z2, z3, z4, z5, fz⟩ := blk6 bz
    obtain ⟨v0, v1, v2, v3, v4, v5, f9⟩ := blk6 b9
    obtain ⟨wv, hwv⟩ : ∃ wv, (wc1.alloc (.cells (mkC M) 79)) = wv := ⟨_, rfl⟩
    rw [hwv] at b3 b4 bz b9 hBB ⊢
    clear l_b3 x0 x1 x2 x3 f3 l_b4 y0 y1 f4 l_bz z0 z1 z2 z3 z4 z5 fz l_b9 v0 v1 v2 v3 v4 v5 f9
    have l_b3 := b3.lt
    have l_b4 := b4.lt
    have l_bz := bz.lt
    have l_b9 := b9.lt
    obtain ⟨x0, x1, x2, x3, f3⟩ := blk4 b3
    obtain ⟨y0, y1, f4⟩ := blk2c b4
    obtain ⟨z0, z1, z2, z3, z4, z5, fz⟩ := blk6 bz
    obtain ⟨v0, v1, v2, v3, v4, v5, f9⟩ := blk6 b9
    clear hwv
    refine wp_region_b 13 (by kernel_rfl) (by kernel_rfl) ?_; simp only [List.take, List.drop]
    repeat (first
      | (apply StepsD.run
         · go_simp
           done
         · intro w' hS K hK
           have hc := (bcell hS).1
           have hf := (bcell hS).2
           have hz := hS.size
           try simp at hz
           go_simp
           try go_bits
           first
             | exact hK _ hS
             | (go_at_call 73; (with_reducible refine (checkGrid_any _ _ _).mono ?_); rintro e w1 ⟨rfl, hB1⟩; obtain ⟨hc1, hf1⟩ := bcell hB1; have hz1 := hB1.size; (try simp at hz1); exact hK _ (Below.trans hS (Below.mono hB1 (by first | exact Nat.le_refl _ | (simp; done) | (simp; omega) | omega))))
             | (go_at_call 49; (with_reducible refine (refCheckGrid_any _ _ _).mono ?_); rintro e w1 ⟨rfl, hB1⟩; obtain ⟨hc1, hf1⟩ := bcell hB1; have hz1 := hB1.size; (try simp at hz1); exact hK _ (Below.trans hS (Below.mono hB1 (by first | exact Nat.le_refl _ | (simp; done) | (simp; omega) | omega))))
             | exact hK _ (by repeat (first | (with_reducible exact Below.refl _ _) | (with_reducible assumption) | ((with_reducible refine Below.setCell ?_ ?_ _); rotate_left; · (first | exact Nat.le_refl _ | (simp; done) | (simp; omega) | omega)) | ((with_reducible refine Below.alloc ?_ ?_ _); rotate_left; · (first | exact Nat.le_refl _ | (simp; done) | (simp; omega) | omega)) | (with_reducible apply Below.drew) | (with_reducible apply below_drewN') | (refine Below.trans ?_ (Below.mono (by assumption) (by first | exact Nat.le_refl _ | (simp; done) | (simp; omega) | omega))) | exact Below.refl _ _ | assumption))
         · simp [Act.put]
           done)
      | (apply StepsD.pass
         · go_simp
           done
         · simp only [Act.put, List.setIfInBounds_toArray, List.set_cons_succ, List.set_cons_zero]
           rfl))
    refine StepsD.done ?_
    intro w9 hS
    replace b3 := b3.gr hS
    replace b4 := b4.gr hS
    replace bz := bz.gr hS
    replace b9 := b9.gr hS
    replace hBB := hBB.trans (Below.mono hS (Below.size hBB))
    clear hS
    clear l_b3 x0 x1 x2 x3 f3 l_b4 y0 y1 f4 l_bz z0 z1 z2 z3 z4 z5 fz l_b9 v0 v1 v2 v3 v4 v5 f9
    have l_b3 := b3.lt
    have l_b4 := b4.lt
    have l_bz := bz.lt
    have l_b9 := b9.lt
    obtain ⟨x0, x1, x2, x3, f3⟩ := blk4 b3
    obtain ⟨y0, y1, f4⟩ := blk2c b4
    obtain ⟨z0, z1, z2, z3, z4, z5, fz⟩ := blk6 bz
    obtain ⟨v0, v1, v2, v3, v4, v5, f9⟩ := blk6 b9
    go_wp2
    go_ret
    exact ⟨by first | rfl | (simp; done), hBB⟩
  case neg =>
    have g1 : decide ((40 : Int) < (l.length : Int)) = false := by simp; omega
    have hnm20 : nm.size ≤ 20 := by omega
    clear h1 h2 h3 h4
    go_upto_region 5 with fail
    clear x0 x1 x2 x3 f3 y0 y1 f4
    have HL : Hid (∀ w', Below w1.heap.size w1 w' → Row w' w.heap.size 2 A l.length (cellsC l)) := Lib.hid (fun w' h => hR.below (hBB.trans (h.mono (Below.size hBB))) (Nat.le_refl _))
    have hzw := Below.size hBB
    refine marksReg5 l A c w.heap.size pr pc lv d0 d1 nm HL hzw hc HNIL (by omega) (by omega) b3 b4 M er HV _ ?_
    intro t34 t35 t36 t37 t38 t39 t40 t41 z wz bz hzz hBz
    try dsimp only
    have n3z : w.heap.size + 1 ≠ z := by have := b4.lt; omega
    replace b3 := b3.gr hBz
    replace b4 := b4.gr hBz
    replace hBB := hBB.trans (hBz.mono hzw)
    clear hBz HL
    have l_b3 := b3.lt
    obtain ⟨x0, x1, x2, x3, f3⟩ := blk4 b3
    have l_b4 := b4.lt
    obtain ⟨y0, y1, f4⟩ := blk2c b4
    have l_bz := bz.lt
    obtain ⟨z0, z1, z2, z3, z4, z5, fz⟩ := blk6 bz
    go_wp2_with fail
    refine (refMarkOf_any l A c w.heap.size pr pc lv d0 d1 nm _ (hR.below hBB (Nat.le_refl _)) (Below.size hBB) (by omega) (by omega)).mono ?_
    rw [HV.out]
    rintro e wc2 ⟨rfl, hBc2⟩
    replace b3 := b3.gr hBc2
    replace b4 := b4.gr hBc2
    replace bz := bz.gr hBc2
    replace hBB := hBB.trans (Below.mono hBc2 (Below.size hBB))
    clear hBc2
    clear l_b3 x0 x1 x2 x3 f3 l_b4 y0 y1 f4 l_bz z0 z1 z2 z3 z4 z5 fz
    have l_b3 := b3.lt
    have l_b4 := b4.lt
    have l_bz := bz.lt
    obtain ⟨x0, x1, x2, x3, f3⟩ := blk4 b3
    obtain ⟨y0, y1, f4⟩ := blk2c b4
    obtain ⟨z0, z1, z2, z3, z4, z5, fz⟩ := blk6 bz
    go_upto_region 7 with fail
    have b9 := Blk.new wc2 79 (mkC M)
    replace b3 := b3.alloc (.cells (mkC M) 79 (0, 0))
    replace b4 := b4.alloc (.cells (mkC M) 79 (0, 0))
    replace bz := bz.alloc (.cells (mkC M) 79 (0, 0))
    replace hBB := hBB.alloc (Below.size hBB) (.cells (mkC M) 79 (0, 0))
    clear l_b3 x0 x1 x2 x3 f3 l_b4 y0 y1 f4 l_bz z0 z1 z2 z3 z4 z5 fz
    have l_b3 := b3.lt
    have l_b4 := b4.lt
    have l_bz := bz.lt
    have l_b9 := b9.lt
    obtain ⟨x0, x1, x2, x3, f3⟩ := blk4 b3
    obtain ⟨y0, y1, f4⟩ := blk2c b4
    obtain ⟨z0, z1, z2, z3, z4, z5, fz⟩ := blk6 bz
    obtain ⟨v0, v1, v2, v3, v4, v5, f9⟩ := blk6 b9
    obtain ⟨wv, hwv⟩ : ∃ wv, (wc2.alloc (.cells (mkC M) 79)) = wv := ⟨_, rfl⟩
    rw [hwv] at b3 b4 bz b9 hBB ⊢
    clear l_b3 x0 x1 x2 x3 f3 l_b4 y0 y1 f4 l_bz z0 z1 z2 z3 z4 z5 fz l_b9 v0 v1 v2 v3 v4 v5 f9
    have l_b3 := b3.lt
    have l_b4 := b4.lt
    have l_bz := bz.lt
    have l_b9 := b9.lt
    obtain ⟨x0, x1, x2, x3, f3⟩ := blk4 b3
    obtain ⟨y0, y1, f4⟩ := blk2c b4
    obtain ⟨z0, z1, z2, z3, z4, z5, fz⟩ := blk6 bz
    obtain ⟨v0, v1, v2, v3, v4, v5, f9⟩ := blk6 b9
    clear hwv
    refine wp_region_b 13 (by kernel_rfl) (by kernel_rfl) ?_; simp only [List.take, List.drop]
    repeat (first
      | (apply StepsD.run
         · go_simp
           done
         · intro w' hS K hK
           have hc := (bcell hS).1
           have hf := (bcell hS).2
           have hz := hS.size
           try simp at hz
           go_simp
           try go_bits
           first
             | exact hK _ hS
             | (go_at_call 73; (with_reducible refine (checkGrid_any _ _ _).mono ?_); rintro e w1 ⟨rfl, hB1⟩; obtain ⟨hc1, hf1⟩ := bcell hB1; have hz1 := hB1.size; (try simp at hz1); exact hK _ (Below.trans hS (Below.mono hB1 (by first | exact Nat.le_refl _ | (simp; done) | (simp; omega) | omega))))
             | (go_at_call 49; (with_reducible refine (refCheckGrid_any _ _ _).mono ?_); rintro e w1 ⟨rfl, hB1⟩; obtain ⟨hc1, hf1⟩ := bcell hB1; have hz1 := hB1.size; (try simp at hz1); exact hK _ (Below.trans hS (Below.mono hB1 (by first | exact Nat.le_refl _ | (simp; done) | (simp; omega) | omega))))
             | exact hK _ (by repeat (first | (with_reducible exact Below.refl _ _) | (with_reducible assumption) | ((with_reducible refine Below.setCell ?_ ?_ _); rotate_left; · (first | exact Nat.le_refl _ | (simp; done) | (simp; omega) | omega)) | ((with_reducible refine Below.alloc ?_ ?_ _); rotate_left; · (first | exact Nat.le_refl _ | (simp; done) | (simp; omega) | omega)) | (with_reducible apply Below.drew) | (with_reducible apply below_drewN') | (refine Below.trans ?_ (Below.mono (by assumption) (by first | exact Nat.le_refl _ | (simp; done) | (simp; omega) | omega))) | exact Below.refl _ _ | assumption))
         · simp [Act.put]
           done)
      | (apply StepsD.pass
         · go_simp
           done
         · simp only [Act.put, List.setIfInBounds_toArray, List.set_cons_succ, List.set_cons_zero]
           rfl))
    refine StepsD.done ?_
    intro w9 hS
    replace b3 := b3.gr hS
    replace b4 := b4.gr hS
    replace bz := bz.gr hS
    replace b9 := b9.gr hS
    replace hBB := hBB.trans (Below.mono hS (Below.size hBB))
    clear hS
    clear l_b3 x0 x1 x2 x3 f3 l_b4 y0 y1 f4 l_bz z0 z1 z2 z3 z4 z5 fz l_b9 v0 v1 v2 v3 v4 v5 f9
    have l_b3 := b3.lt
    have l_b4 := b4.lt
    have l_bz := bz.lt
    have l_b9 := b9.lt
    obtain ⟨x0, x1, x2, x3, f3⟩ := blk4 b3
    obtain ⟨y0, y1, f4⟩ := blk2c b4
    obtain ⟨z0, z1, z2, z3, z4, z5, fz⟩ := blk6 bz
    obtain ⟨v0, v1, v2, v3, v4, v5, f9⟩ := blk6 b9
    go_wp2
    go_ret
    exact ⟨by first | rfl | (simp; done), hBB⟩
end Go.Proofs.YtidgeagpgllkeaaGreat
