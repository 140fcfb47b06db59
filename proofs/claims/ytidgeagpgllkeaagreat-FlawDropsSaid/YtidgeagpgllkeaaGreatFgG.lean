/- The law FlawDrops answers true. -/
import Derived.Test.YtidgeagpgllkeaaGreatFgD
import Derived.Test.YtidgeagpgllkeaaGreatFgF
namespace Go.Proofs.YtidgeagpgllkeaaGreat
open Go.RowKit

theorem ScOk.more {l : List Sc} {A : Option Addr} {B B' : Nat} {w : World} (h : ScOk l A B w) (hB : B ≤ B') : ScOk l A B' w := ⟨h.len, h.row.more hB, h.size, fun s hs => (h.data s hs).more hB⟩
theorem dropV_err {l : List Sc} (h : (scansE l).2 ≠ 0) (p0 p1 p2 n d : Int) : dropV l p0 p1 p2 n d = ⟨0, 0, (scansE l).2⟩ := by unfold dropV; rw [if_pos h]
set_option maxRecDepth 100000 in
set_option maxHeartbeats 4000000 in
/-- The copy's length of a drop, stored (region 5). -/
theorem dropReg5 (l : List Sc) (A : Option Addr) (c B : Nat) (p0 p1 p2 num den : Int) {w : World} {q4 q5 : Nat} (hL : Hid (∀ w', Below w.heap.size w w' → ScOk l A B w')) (hB : B ≤ w.heap.size) (hle : l.length ≤ c) (hl8 : l.length ≤ 8) (HNIL : Hid (A = none → c = 0)) (HD : Hid (∀ s ∈ l, s.data.length ≤ s.dcap ∧ (s.dA = none → s.dcap = 0))) (HSZ : Hid (∀ s ∈ l, s.data.length ≤ 1000000000))
    (b4 : Blk w q4 43 #[.int .i64 p0, .int .i64 p1, .int .i64 p2]) (b5 : Blk w q5 45 #[.int .i64 num, .int .i64 den]) (H0 : Hid (W64 p0)) (H1 : Hid (W64 p1)) (HN : Hid (W64 num)) (HDn : Hid (W64 den)) (lo hi er : Int)
    (HRC : Hid (∀ L : List Sc, L.map Sc.core = l.map Sc.core → reC (dropV L p0 p1 p2 num den) = .tuple #[.agg #[.int .i64 lo, .int .i64 hi], .int .i64 er])) {t1 t2 t3 t6 t7 t8 t9 t10 t11 t12 t13 t14 t15 t16 t17 t18 t19 t20 t21 t22 t23 t24 t25 t26 t27 t28 t29 t30 t31 t32 t33 t34 t35 t36 t37 t38 t39 t40 t41 t42 t43 t44 t45 t46 t47 t48 t49 t50 t51 t52 t53 t54 t55 t56 t57 t58 : Value} {ds : List Deferred} (Q : Exit → Act → World → Prop)
    (h : ∀ (t29 t30 t31 t32 t33 t34 t35 t36 : Value) (z : Nat) (w' : World), Blk w' z 48 #[.int .i64 lo, .int .i64 hi] → w.heap.size ≤ z → Below w.heap.size w w' → Q .normal ⟨#[.slice A l.length c, t1, t2, t3, .pointer (some ⟨q4, 0, none⟩), .pointer (some ⟨q5, 0, none⟩), t6, .pointer (some ⟨z, 0, none⟩), .int .i64 er, t9, t10, t11, t12, t13, t14, t15, t16, t17, t18, t19, t20, t21, t22, t23, t24, t25, t26, t27, t28, t29, t30, t31, t32, t33, t34, t35, t36, t37, t38, t39, t40, t41, t42, t43, t44, t45, t46, t47, t48, t49, t50, t51, t52, t53, t54, t55, t56, t57, t58], ds⟩ w') :
    (regOf Tryz.f4 5).wp Tryz.prog Q ⟨#[.slice A l.length c, t1, t2, t3, .pointer (some ⟨q4, 0, none⟩), .pointer (some ⟨q5, 0, none⟩), t6, t7, t8, t9, t10, t11, t12, t13, t14, t15, t16, t17, t18, t19, t20, t21, t22, t23, t24, t25, t26, t27, t28, t29, t30, t31, t32, t33, t34, t35, t36, t37, t38, t39, t40, t41, t42, t43, t44, t45, t46, t47, t48, t49, t50, t51, t52, t53, t54, t55, t56, t57, t58], ds⟩ w := by
  have H := Lib.hid h; clear h
  obtain ⟨x0, x1, x2, _⟩ := blk3c b4
  obtain ⟨y0, y1, _⟩ := blk2c b5
  have l4 := b4.lt
  have l5 := b5.lt
  conv in (regOf _ _) => whnf
  refine wp_region_w (Gr _) (by kernel_rfl) (Below.refl _ _).drew ?_
  refine wpW_det (t' := ?ct0R42) 0 (by rfl) (by kernel_rfl) (NQ_free _) (by kernel_rfl) ?cw0R42 ?ch0R42 ?ca0R42 (Eq.refl _) ?cH0R42
  case cw0R42 => (go_simp; done)
  case ch0R42 =>
    intro ds w' hS K hK
    have hc := (bcell hS).1
    have hf := (bcell hS).2
    have hz := hS.size
    try simp at hz
    go_simp
    try go_bits
    first
      | exact hK _ hS (Gr.refl _)
      | exact hK _ (by repeat (first | (with_reducible exact Below.refl _ _) | (with_reducible assumption) | ((with_reducible refine Below.setCell ?_ ?_ _); rotate_left; · (first | exact Nat.le_refl _ | (simp; done) | (simp; omega) | omega)) | ((with_reducible refine Below.alloc ?_ ?_ _); rotate_left; · (first | exact Nat.le_refl _ | (simp; done) | (simp; omega) | omega)) | (with_reducible apply Below.drew) | (with_reducible apply below_drewN') | (refine Below.trans ?_ (Below.mono (by assumption) (by first | exact Nat.le_refl _ | (simp; done) | (simp; omega) | omega))) | exact Below.refl _ _ | assumption)) (by repeat (first | (with_reducible exact Below.refl _ _) | (with_reducible assumption) | ((with_reducible refine Below.setCell ?_ ?_ _); rotate_left; · (first | exact Nat.le_refl _ | (simp; done) | (simp; omega) | omega)) | ((with_reducible refine Below.alloc ?_ ?_ _); rotate_left; · (first | exact Nat.le_refl _ | (simp; done) | (simp; omega) | omega)) | (with_reducible apply Below.drew) | (with_reducible apply below_drewN') | (refine Below.trans ?_ (Below.mono (by assumption) (by first | exact Nat.le_refl _ | (simp; done) | (simp; omega) | omega))) | exact Below.refl _ _ | assumption))
  case ca0R42 => (first | (simp [Act.put]; done) | (simp [Act.put, *]; done))
  try dsimp only
  refine wpW_det (t' := ?ct2R42) 2 (by rfl) (by kernel_rfl) (NQ_free _) (by kernel_rfl) ?cw2R42 ?ch2R42 ?ca2R42 (Eq.refl _) ?cH2R42
  case cw2R42 => (go_simp; done)
  case ch2R42 =>
    intro ds w' hS K hK
    have hc := (bcell hS).1
    have hf := (bcell hS).2
    have hz := hS.size
    try simp at hz
    go_simp
    try go_bits
    first
      | exact hK _ hS (Gr.refl _)
      | exact hK _ (by repeat (first | (with_reducible exact Below.refl _ _) | (with_reducible assumption) | ((with_reducible refine Below.setCell ?_ ?_ _); rotate_left; · (first | exact Nat.le_refl _ | (simp; done) | (simp; omega) | omega)) | ((with_reducible refine Below.alloc ?_ ?_ _); rotate_left; · (first | exact Nat.le_refl _ | (simp; done) | (simp; omega) | omega)) | (with_reducible apply Below.drew) | (with_reducible apply below_drewN') | (refine Below.trans ?_ (Below.mono (by assumption) (by first | exact Nat.le_refl _ | (simp; done) | (simp; omega) | omega))) | exact Below.refl _ _ | assumption)) (by repeat (first | (with_reducible exact Below.refl _ _) | (with_reducible assumption) | ((with_reducible refine Below.setCell ?_ ?_ _); rotate_left; · (first | exact Nat.le_refl _ | (simp; done) | (simp; omega) | omega)) | ((with_reducible refine Below.alloc ?_ ?_ _); rotate_left; · (first | exact Nat.le_refl _ | (simp; done) | (simp; omega) | omega)) | (with_reducible apply Below.drew) | (with_reducible apply below_drewN') | (refine Below.trans ?_ (Below.mono (by assumption) (by first | exact Nat.le_refl _ | (simp; done) | (simp; omega) | omega))) | exact Below.refl _ _ | assumption))
  case ca2R42 => (first | (simp [Act.put]; done) | (simp [Act.put, *]; done))
  try dsimp only
  refine wpW_det (t' := ?ct3R42) 3 (by rfl) (by kernel_rfl) (NQ_free _) (by kernel_rfl) ?cw3R42 ?ch3R42 ?ca3R42 (Eq.refl _) ?cH3R42
  case cw3R42 => (go_simp; done)
  case ch3R42 =>
    intro ds w' hS K hK
    have hc := (bcell hS).1
    have hf := (bcell hS).2
    have hz := hS.size
    try simp at hz
    go_simp
    try go_bits
    first
      | exact hK _ hS (Gr.refl _)
      | exact hK _ (by repeat (first | (with_reducible exact Below.refl _ _) | (with_reducible assumption) | ((with_reducible refine Below.setCell ?_ ?_ _); rotate_left; · (first | exact Nat.le_refl _ | (simp; done) | (simp; omega) | omega)) | ((with_reducible refine Below.alloc ?_ ?_ _); rotate_left; · (first | exact Nat.le_refl _ | (simp; done) | (simp; omega) | omega)) | (with_reducible apply Below.drew) | (with_reducible apply below_drewN') | (refine Below.trans ?_ (Below.mono (by assumption) (by first | exact Nat.le_refl _ | (simp; done) | (simp; omega) | omega))) | exact Below.refl _ _ | assumption)) (by repeat (first | (with_reducible exact Below.refl _ _) | (with_reducible assumption) | ((with_reducible refine Below.setCell ?_ ?_ _); rotate_left; · (first | exact Nat.le_refl _ | (simp; done) | (simp; omega) | omega)) | ((with_reducible refine Below.alloc ?_ ?_ _); rotate_left; · (first | exact Nat.le_refl _ | (simp; done) | (simp; omega) | omega)) | (with_reducible apply Below.drew) | (with_reducible apply below_drewN') | (refine Below.trans ?_ (Below.mono (by assumption) (by first | exact Nat.le_refl _ | (simp; done) | (simp; omega) | omega))) | exact Below.refl _ _ | assumption))
  case ca3R42 => (first | (simp [Act.put]; done) | (simp [Act.put, *]; done))
  try dsimp only
  clear x0 x1 x2 y0 y1 l4 l5 b4 b5
  refine wpW_branch [1, 8] (by kernel_rfl) (by simp) ?_
  intro w1 hg1 hS1
  try have z := Blk.gr z hg1
  try have hl2 := hl2.below hg1 hbb
  try have hbb := Nat.le_trans hbb (Below.size hg1)
  try (have zz := blk2c z; obtain ⟨z0, z1, zf⟩ := zz)
  try have lz := z.lt
  refine each_cons ?_ (each_cons ?_ (each_nil))
  · refine wpOp_go (by rfl) (Eq.refl _) (by go_simp; done) ?_
    intro K hK
    go_simp
    try simp only [Act.put]
    refine (copyScans_any l A c B _ (hL.out _ hS1) hle (by have := Below.size hS1; omega) HNIL.out HD).mono ?_
    rintro e ws1 ⟨v2, L2, rfl, hc2, own2, each2, hBs⟩
    obtain ⟨A2, c2, rfl, hl2⟩ := copiedS hc2 own2 each2 (by omega) HSZ.out
    obtain ⟨bb, hbbe⟩ : ∃ n, n = ws1.heap.size := ⟨_, rfl⟩
    rw [← hbbe] at hl2
    have hbb := Nat.le_of_eq hbbe
    have HR2 := HRC.out L2 hc2
    try have z := Blk.gr z hBs
    refine hK _ _ (Below.trans hS1 (hBs.mono (Below.size hS1))) ?_
    clear hK K own2 each2 hBs hbbe
    refine wpW_branch [4, 8] (by kernel_rfl) (by simp) ?_
    intro w2 hg2 hS2
    try have z := Blk.gr z hg2
    try have hl2 := hl2.below hg2 hbb
    try have hbb := Nat.le_trans hbb (Below.size hg2)
    try (have zz := blk2c z; obtain ⟨z0, z1, zf⟩ := zz)
    try have lz := z.lt
    refine each_cons ?_ (each_cons ?_ (each_nil))
    · refine wpOp_go (by rfl) (Eq.refl _) (by go_simp; done) ?_
      intro K hK
      go_simp
      try simp only [Act.put]
      refine (drop_any L2 A2 c2 bb p0 p1 p2 num den _ (hl2.more (Nat.le_refl _)) hbb H0.out H1.out HN.out HDn.out).mono ?_
      rw [HR2]
      rintro e w8 ⟨rfl, hB8⟩
      try have z := Blk.gr z hB8
      refine hK _ _ (Below.trans hS2 (hB8.mono (Below.size hS2))) ?_
      clear hK K hl2
      refine wpW_det (t' := ?ct5R43) 5 (by rfl) (by kernel_rfl) (NQ_free _) (by kernel_rfl) ?cw5R43 ?ch5R43 ?ca5R43 (Eq.refl _) ?cH5R43
      case cw5R43 => (go_simp; done)
      case ch5R43 =>
        intro ds w' hS K hK
        have hc := (bcell hS).1
        have hf := (bcell hS).2
        have hz := hS.size
        try simp at hz
        go_simp
        try go_bits
        first
          | exact hK _ hS (Gr.refl _)
          | exact hK _ (by repeat (first | (with_reducible exact Below.refl _ _) | (with_reducible assumption) | ((with_reducible refine Below.setCell ?_ ?_ _); rotate_left; · (first | exact Nat.le_refl _ | (simp; done) | (simp; omega) | omega)) | ((with_reducible refine Below.alloc ?_ ?_ _); rotate_left; · (first | exact Nat.le_refl _ | (simp; done) | (simp; omega) | omega)) | (with_reducible apply Below.drew) | (with_reducible apply below_drewN') | (refine Below.trans ?_ (Below.mono (by assumption) (by first | exact Nat.le_refl _ | (simp; done) | (simp; omega) | omega))) | exact Below.refl _ _ | assumption)) (by repeat (first | (with_reducible exact Below.refl _ _) | (with_reducible assumption) | ((with_reducible refine Below.setCell ?_ ?_ _); rotate_left; · (first | exact Nat.le_refl _ | (simp; done) | (simp; omega) | omega)) | ((with_reducible refine Below.alloc ?_ ?_ _); rotate_left; · (first | exact Nat.le_refl _ | (simp; done) | (simp; omega) | omega)) | (with_reducible apply Below.drew) | (with_reducible apply below_drewN') | (refine Below.trans ?_ (Below.mono (by assumption) (by first | exact Nat.le_refl _ | (simp; done) | (simp; omega) | omega))) | exact Below.refl _ _ | assumption))
      case ca5R43 => (first | (simp [Act.put]; done) | (simp [Act.put, *]; done))
      try dsimp only
      refine wpW_det (t' := ?ct6R43) 6 (by rfl) (by kernel_rfl) (NQ_free _) (by kernel_rfl) ?cw6R43 ?ch6R43 ?ca6R43 (Eq.refl _) ?cH6R43
      case cw6R43 => (go_simp; done)
      case ch6R43 =>
        intro ds w' hS K hK
        have hc := (bcell hS).1
        have hf := (bcell hS).2
        have hz := hS.size
        try simp at hz
        go_simp
        try go_bits
        first
          | exact hK _ hS (Gr.refl _)
          | exact hK _ (by repeat (first | (with_reducible exact Below.refl _ _) | (with_reducible assumption) | ((with_reducible refine Below.setCell ?_ ?_ _); rotate_left; · (first | exact Nat.le_refl _ | (simp; done) | (simp; omega) | omega)) | ((with_reducible refine Below.alloc ?_ ?_ _); rotate_left; · (first | exact Nat.le_refl _ | (simp; done) | (simp; omega) | omega)) | (with_reducible apply Below.drew) | (with_reducible apply below_drewN') | (refine Below.trans ?_ (Below.mono (by assumption) (by first | exact Nat.le_refl _ | (simp; done) | (simp; omega) | omega))) | exact Below.refl _ _ | assumption)) (by repeat (first | (with_reducible exact Below.refl _ _) | (with_reducible assumption) | ((with_reducible refine Below.setCell ?_ ?_ _); rotate_left; · (first | exact Nat.le_refl _ | (simp; done) | (simp; omega) | omega)) | ((with_reducible refine Below.alloc ?_ ?_ _); rotate_left; · (first | exact Nat.le_refl _ | (simp; done) | (simp; omega) | omega)) | (with_reducible apply Below.drew) | (with_reducible apply below_drewN') | (refine Below.trans ?_ (Below.mono (by assumption) (by first | exact Nat.le_refl _ | (simp; done) | (simp; omega) | omega))) | exact Below.refl _ _ | assumption))
      case ca6R43 => (first | (simp [Act.put]; done) | (simp [Act.put, *]; done))
      try dsimp only
      refine wpW_det (t' := ?ct7R43) 7 (by rfl) (by kernel_rfl) (NQ_free _) (by kernel_rfl) ?cw7R43 ?ch7R43 ?ca7R43 (Eq.refl _) ?cH7R43
      case cw7R43 => (go_simp; done)
      case ch7R43 =>
        intro ds w' hS K hK
        have hc := (bcell hS).1
        have hf := (bcell hS).2
        have hz := hS.size
        try simp at hz
        go_simp
        try go_bits
        first
          | exact hK _ hS (Gr.refl _)
          | exact hK _ (by repeat (first | (with_reducible exact Below.refl _ _) | (with_reducible assumption) | ((with_reducible refine Below.setCell ?_ ?_ _); rotate_left; · (first | exact Nat.le_refl _ | (simp; done) | (simp; omega) | omega)) | ((with_reducible refine Below.alloc ?_ ?_ _); rotate_left; · (first | exact Nat.le_refl _ | (simp; done) | (simp; omega) | omega)) | (with_reducible apply Below.drew) | (with_reducible apply below_drewN') | (refine Below.trans ?_ (Below.mono (by assumption) (by first | exact Nat.le_refl _ | (simp; done) | (simp; omega) | omega))) | exact Below.refl _ _ | assumption)) (by repeat (first | (with_reducible exact Below.refl _ _) | (with_reducible assumption) | ((with_reducible refine Below.setCell ?_ ?_ _); rotate_left; · (first | exact Nat.le_refl _ | (simp; done) | (simp; omega) | omega)) | ((with_reducible refine Below.alloc ?_ ?_ _); rotate_left; · (first | exact Nat.le_refl _ | (simp; done) | (simp; omega) | omega)) | (with_reducible apply Below.drew) | (with_reducible apply below_drewN') | (refine Below.trans ?_ (Below.mono (by assumption) (by first | exact Nat.le_refl _ | (simp; done) | (simp; omega) | omega))) | exact Below.refl _ _ | assumption))
      case ca7R43 => (first | (simp [Act.put]; done) | (simp [Act.put, *]; done))
      try dsimp only
      refine wpW_branch [8] (by kernel_rfl) (by simp) ?_
      intro w3 hg3 hS3
      try have z := Blk.gr z hg3
      try have hl2 := hl2.below hg3 hbb
      try have hbb := Nat.le_trans hbb (Below.size hg3)
      try (have zz := blk2c z; obtain ⟨z0, z1, zf⟩ := zz)
      try have lz := z.lt
      refine each_cons ?_ (each_nil)
      · refine wpOp_go (by rfl) (Eq.refl _) (by go_simp; done) ?_
        intro K hK
        go_simp
        try simp only [Act.put]
        have z := Blk.new w3 48 #[.int .i64 0, .int .i64 0]
        have hzp := Below.size hS3
        try have hl2 := hl2.below ((Below.refl w3.heap.size w3).alloc (Nat.le_refl _) (.cells #[.int .i64 0, .int .i64 0] 48 (0, 0))) hbb
        try have hbb := Nat.le_trans hbb (show w3.heap.size ≤ (w3.alloc (.cells #[.int .i64 0, .int .i64 0] 48 (0, 0))).heap.size by simp)
        refine hK _ _ (Below.alloc hS3 (Below.size hS3) _) ?_
        clear hK K
        refine wpW_branch [9] (by kernel_rfl) (by simp) ?_
        intro w4 hg4 hS4
        try have z := Blk.gr z hg4
        try have hl2 := hl2.below hg4 hbb
        try have hbb := Nat.le_trans hbb (Below.size hg4)
        try (have zz := blk2c z; obtain ⟨z0, z1, zf⟩ := zz)
        try have lz := z.lt
        refine each_cons ?_ (each_nil)
        · refine wpOp_go (by rfl) (Eq.refl _) (by go_simp; done) ?_
          intro K hK
          go_simp
          try simp only [Act.put]
          have z := (z.set_ 0 (.int .i64 lo)).set_ 1 (.int .i64 hi)
          refine hK _ _ ((hS4.setCell hzp _).setCell hzp _) ?_
          clear hK K z0 z1 zf
          refine wpW_det (t' := ?ct10R44) 10 (by rfl) (by kernel_rfl) (NQ_free _) (by kernel_rfl) ?cw10R44 ?ch10R44 ?ca10R44 (Eq.refl _) ?cH10R44
          case cw10R44 => (go_simp; done)
          case ch10R44 =>
            intro ds w' hS K hK
            have hc := (bcell hS).1
            have hf := (bcell hS).2
            have hz := hS.size
            try simp at hz
            go_simp
            try go_bits
            first
              | exact hK _ hS (Gr.refl _)
              | exact hK _ (by repeat (first | (with_reducible exact Below.refl _ _) | (with_reducible assumption) | ((with_reducible refine Below.setCell ?_ ?_ _); rotate_left; · (first | exact Nat.le_refl _ | (simp; done) | (simp; omega) | omega)) | ((with_reducible refine Below.alloc ?_ ?_ _); rotate_left; · (first | exact Nat.le_refl _ | (simp; done) | (simp; omega) | omega)) | (with_reducible apply Below.drew) | (with_reducible apply below_drewN') | (refine Below.trans ?_ (Below.mono (by assumption) (by first | exact Nat.le_refl _ | (simp; done) | (simp; omega) | omega))) | exact Below.refl _ _ | assumption)) (by repeat (first | (with_reducible exact Below.refl _ _) | (with_reducible assumption) | ((with_reducible refine Below.setCell ?_ ?_ _); rotate_left; · (first | exact Nat.le_refl _ | (simp; done) | (simp; omega) | omega)) | ((with_reducible refine Below.alloc ?_ ?_ _); rotate_left; · (first | exact Nat.le_refl _ | (simp; done) | (simp; omega) | omega)) | (with_reducible apply Below.drew) | (with_reducible apply below_drewN') | (refine Below.trans ?_ (Below.mono (by assumption) (by first | exact Nat.le_refl _ | (simp; done) | (simp; omega) | omega))) | exact Below.refl _ _ | assumption))
          case ca10R44 => (first | (simp [Act.put]; done) | (simp [Act.put, *]; done))
          try dsimp only
          refine wpW_end (by kernel_rfl) ?_
          intro we hg hS
          unfold NQ
          dsimp only
          replace z := Blk.gr z hg
          exact H.out _ _ _ _ _ _ _ _ _ we z hzp hS
    · refine wpOp_go (by rfl) (Eq.refl _) (by go_simp; done) ?_
      intro K hK
      go_simp
      try simp only [Act.put]
      have z := Blk.new w2 48 #[.int .i64 0, .int .i64 0]
      have hzp := Below.size hS2
      try have hl2 := hl2.below ((Below.refl w2.heap.size w2).alloc (Nat.le_refl _) (.cells #[.int .i64 0, .int .i64 0] 48 (0, 0))) hbb
      try have hbb := Nat.le_trans hbb (show w2.heap.size ≤ (w2.alloc (.cells #[.int .i64 0, .int .i64 0] 48 (0, 0))).heap.size by simp)
      refine hK _ _ (Below.alloc hS2 (Below.size hS2) _) ?_
      clear hK K
      refine wpW_branch [4] (by kernel_rfl) (by simp) ?_
      intro w3 hg3 hS3
      try have z := Blk.gr z hg3
      try have hl2 := hl2.below hg3 hbb
      try have hbb := Nat.le_trans hbb (Below.size hg3)
      try (have zz := blk2c z; obtain ⟨z0, z1, zf⟩ := zz)
      try have lz := z.lt
      refine each_cons ?_ (each_nil)
      · refine wpOp_go (by rfl) (Eq.refl _) (by go_simp; done) ?_
        intro K hK
        go_simp
        try simp only [Act.put]
        refine (drop_any L2 A2 c2 bb p0 p1 p2 num den _ (hl2.more (Nat.le_refl _)) hbb H0.out H1.out HN.out HDn.out).mono ?_
        rw [HR2]
        rintro e w8 ⟨rfl, hB8⟩
        try have z := Blk.gr z hB8
        refine hK _ _ (Below.trans hS3 (hB8.mono (Below.size hS3))) ?_
        clear hK K hl2
        refine wpW_det (t' := ?ct5R45) 5 (by rfl) (by kernel_rfl) (NQ_free _) (by kernel_rfl) ?cw5R45 ?ch5R45 ?ca5R45 (Eq.refl _) ?cH5R45
        case cw5R45 => (go_simp; done)
        case ch5R45 =>
          intro ds w' hS K hK
          have hc := (bcell hS).1
          have hf := (bcell hS).2
          have hz := hS.size
          try simp at hz
          go_simp
          try go_bits
          first
            | exact hK _ hS (Gr.refl _)
            | exact hK _ (by repeat (first | (with_reducible exact Below.refl _ _) | (with_reducible assumption) | ((with_reducible refine Below.setCell ?_ ?_ _); rotate_left; · (first | exact Nat.le_refl _ | (simp; done) | (simp; omega) | omega)) | ((with_reducible refine Below.alloc ?_ ?_ _); rotate_left; · (first | exact Nat.le_refl _ | (simp; done) | (simp; omega) | omega)) | (with_reducible apply Below.drew) | (with_reducible apply below_drewN') | (refine Below.trans ?_ (Below.mono (by assumption) (by first | exact Nat.le_refl _ | (simp; done) | (simp; omega) | omega))) | exact Below.refl _ _ | assumption)) (by repeat (first | (with_reducible exact Below.refl _ _) | (with_reducible assumption) | ((with_reducible refine Below.setCell ?_ ?_ _); rotate_left; · (first | exact Nat.le_refl _ | (simp; done) | (simp; omega) | omega)) | ((with_reducible refine Below.alloc ?_ ?_ _); rotate_left; · (first | exact Nat.le_refl _ | (simp; done) | (simp; omega) | omega)) | (with_reducible apply Below.drew) | (with_reducible apply below_drewN') | (refine Below.trans ?_ (Below.mono (by assumption) (by first | exact Nat.le_refl _ | (simp; done) | (simp; omega) | omega))) | exact Below.refl _ _ | assumption))
        case ca5R45 => (first | (simp [Act.put]; done) | (simp [Act.put, *]; done))
        try dsimp only
        refine wpW_det (t' := ?ct6R45) 6 (by rfl) (by kernel_rfl) (NQ_free _) (by kernel_rfl) ?cw6R45 ?ch6R45 ?ca6R45 (Eq.refl _) ?cH6R45
        case cw6R45 => (go_simp; done)
        case ch6R45 =>
          intro ds w' hS K hK
          have hc := (bcell hS).1
          have hf := (bcell hS).2
          have hz := hS.size
          try simp at hz
          go_simp
          try go_bits
          first
            | exact hK _ hS (Gr.refl _)
            | exact hK _ (by repeat (first | (with_reducible exact Below.refl _ _) | (with_reducible assumption) | ((with_reducible refine Below.setCell ?_ ?_ _); rotate_left; · (first | exact Nat.le_refl _ | (simp; done) | (simp; omega) | omega)) | ((with_reducible refine Below.alloc ?_ ?_ _); rotate_left; · (first | exact Nat.le_refl _ | (simp; done) | (simp; omega) | omega)) | (with_reducible apply Below.drew) | (with_reducible apply below_drewN') | (refine Below.trans ?_ (Below.mono (by assumption) (by first | exact Nat.le_refl _ | (simp; done) | (simp; omega) | omega))) | exact Below.refl _ _ | assumption)) (by repeat (first | (with_reducible exact Below.refl _ _) | (with_reducible assumption) | ((with_reducible refine Below.setCell ?_ ?_ _); rotate_left; · (first | exact Nat.le_refl _ | (simp; done) | (simp; omega) | omega)) | ((with_reducible refine Below.alloc ?_ ?_ _); rotate_left; · (first | exact Nat.le_refl _ | (simp; done) | (simp; omega) | omega)) | (with_reducible apply Below.drew) | (with_reducible apply below_drewN') | (refine Below.trans ?_ (Below.mono (by assumption) (by first | exact Nat.le_refl _ | (simp; done) | (simp; omega) | omega))) | exact Below.refl _ _ | assumption))
        case ca6R45 => (first | (simp [Act.put]; done) | (simp [Act.put, *]; done))
        try dsimp only
        refine wpW_det (t' := ?ct7R45) 7 (by rfl) (by kernel_rfl) (NQ_free _) (by kernel_rfl) ?cw7R45 ?ch7R45 ?ca7R45 (Eq.refl _) ?cH7R45
        case cw7R45 => (go_simp; done)
        case ch7R45 =>
          intro ds w' hS K hK
          have hc := (bcell hS).1
          have hf := (bcell hS).2
          have hz := hS.size
          try simp at hz
          go_simp
          try go_bits
          first
            | exact hK _ hS (Gr.refl _)
            | exact hK _ (by repeat (first | (with_reducible exact Below.refl _ _) | (with_reducible assumption) | ((with_reducible refine Below.setCell ?_ ?_ _); rotate_left; · (first | exact Nat.le_refl _ | (simp; done) | (simp; omega) | omega)) | ((with_reducible refine Below.alloc ?_ ?_ _); rotate_left; · (first | exact Nat.le_refl _ | (simp; done) | (simp; omega) | omega)) | (with_reducible apply Below.drew) | (with_reducible apply below_drewN') | (refine Below.trans ?_ (Below.mono (by assumption) (by first | exact Nat.le_refl _ | (simp; done) | (simp; omega) | omega))) | exact Below.refl _ _ | assumption)) (by repeat (first | (with_reducible exact Below.refl _ _) | (with_reducible assumption) | ((with_reducible refine Below.setCell ?_ ?_ _); rotate_left; · (first | exact Nat.le_refl _ | (simp; done) | (simp; omega) | omega)) | ((with_reducible refine Below.alloc ?_ ?_ _); rotate_left; · (first | exact Nat.le_refl _ | (simp; done) | (simp; omega) | omega)) | (with_reducible apply Below.drew) | (with_reducible apply below_drewN') | (refine Below.trans ?_ (Below.mono (by assumption) (by first | exact Nat.le_refl _ | (simp; done) | (simp; omega) | omega))) | exact Below.refl _ _ | assumption))
        case ca7R45 => (first | (simp [Act.put]; done) | (simp [Act.put, *]; done))
        try dsimp only
        refine wpW_branch [9] (by kernel_rfl) (by simp) ?_
        intro w4 hg4 hS4
        try have z := Blk.gr z hg4
        try have hl2 := hl2.below hg4 hbb
        try have hbb := Nat.le_trans hbb (Below.size hg4)
        try (have zz := blk2c z; obtain ⟨z0, z1, zf⟩ := zz)
        try have lz := z.lt
        refine each_cons ?_ (each_nil)
        · refine wpOp_go (by rfl) (Eq.refl _) (by go_simp; done) ?_
          intro K hK
          go_simp
          try simp only [Act.put]
          have z := (z.set_ 0 (.int .i64 lo)).set_ 1 (.int .i64 hi)
          refine hK _ _ ((hS4.setCell hzp _).setCell hzp _) ?_
          clear hK K z0 z1 zf
          refine wpW_det (t' := ?ct10R46) 10 (by rfl) (by kernel_rfl) (NQ_free _) (by kernel_rfl) ?cw10R46 ?ch10R46 ?ca10R46 (Eq.refl _) ?cH10R46
          case cw10R46 => (go_simp; done)
          case ch10R46 =>
            intro ds w' hS K hK
            have hc := (bcell hS).1
            have hf := (bcell hS).2
            have hz := hS.size
            try simp at hz
            go_simp
            try go_bits
            first
              | exact hK _ hS (Gr.refl _)
              | exact hK _ (by repeat (first | (with_reducible exact Below.refl _ _) | (with_reducible assumption) | ((with_reducible refine Below.setCell ?_ ?_ _); rotate_left; · (first | exact Nat.le_refl _ | (simp; done) | (simp; omega) | omega)) | ((with_reducible refine Below.alloc ?_ ?_ _); rotate_left; · (first | exact Nat.le_refl _ | (simp; done) | (simp; omega) | omega)) | (with_reducible apply Below.drew) | (with_reducible apply below_drewN') | (refine Below.trans ?_ (Below.mono (by assumption) (by first | exact Nat.le_refl _ | (simp; done) | (simp; omega) | omega))) | exact Below.refl _ _ | assumption)) (by repeat (first | (with_reducible exact Below.refl _ _) | (with_reducible assumption) | ((with_reducible refine Below.setCell ?_ ?_ _); rotate_left; · (first | exact Nat.le_refl _ | (simp; done) | (simp; omega) | omega)) | ((with_reducible refine Below.alloc ?_ ?_ _); rotate_left; · (first | exact Nat.le_refl _ | (simp; done) | (simp; omega) | omega)) | (with_reducible apply Below.drew) | (with_reducible apply below_drewN') | (refine Below.trans ?_ (Below.mono (by assumption) (by first | exact Nat.le_refl _ | (simp; done) | (simp; omega) | omega))) | exact Below.refl _ _ | assumption))
          case ca10R46 => (first | (simp [Act.put]; done) | (simp [Act.put, *]; done))
          try dsimp only
          refine wpW_end (by kernel_rfl) ?_
          intro we hg hS
          unfold NQ
          dsimp only
          replace z := Blk.gr z hg
          exact H.out _ _ _ _ _ _ _ _ _ we z hzp hS
  · refine wpOp_go (by rfl) (Eq.refl _) (by go_simp; done) ?_
    intro K hK
    go_simp
    try simp only [Act.put]
    have z := Blk.new w1 48 #[.int .i64 0, .int .i64 0]
    have hzp := Below.size hS1
    try have hl2 := hl2.below ((Below.refl w1.heap.size w1).alloc (Nat.le_refl _) (.cells #[.int .i64 0, .int .i64 0] 48 (0, 0))) hbb
    try have hbb := Nat.le_trans hbb (show w1.heap.size ≤ (w1.alloc (.cells #[.int .i64 0, .int .i64 0] 48 (0, 0))).heap.size by simp)
    refine hK _ _ (Below.alloc hS1 (Below.size hS1) _) ?_
    clear hK K
    refine wpW_branch [1] (by kernel_rfl) (by simp) ?_
    intro w2 hg2 hS2
    try have z := Blk.gr z hg2
    try have hl2 := hl2.below hg2 hbb
    try have hbb := Nat.le_trans hbb (Below.size hg2)
    try (have zz := blk2c z; obtain ⟨z0, z1, zf⟩ := zz)
    try have lz := z.lt
    refine each_cons ?_ (each_nil)
    · refine wpOp_go (by rfl) (Eq.refl _) (by go_simp; done) ?_
      intro K hK
      go_simp
      try simp only [Act.put]
      refine (copyScans_any l A c B _ (hL.out _ hS2) hle (by have := Below.size hS2; omega) HNIL.out HD).mono ?_
      rintro e ws1 ⟨v2, L2, rfl, hc2, own2, each2, hBs⟩
      obtain ⟨A2, c2, rfl, hl2⟩ := copiedS hc2 own2 each2 (by omega) HSZ.out
      obtain ⟨bb, hbbe⟩ : ∃ n, n = ws1.heap.size := ⟨_, rfl⟩
      rw [← hbbe] at hl2
      have hbb := Nat.le_of_eq hbbe
      have HR2 := HRC.out L2 hc2
      try have z := Blk.gr z hBs
      refine hK _ _ (Below.trans hS2 (hBs.mono (Below.size hS2))) ?_
      clear hK K own2 each2 hBs hbbe
      refine wpW_branch [4] (by kernel_rfl) (by simp) ?_
      intro w3 hg3 hS3
      try have z := Blk.gr z hg3
      try have hl2 := hl2.below hg3 hbb
      try have hbb := Nat.le_trans hbb (Below.size hg3)
      try (have zz := blk2c z; obtain ⟨z0, z1, zf⟩ := zz)
      try have lz := z.lt
      refine each_cons ?_ (each_nil)
      · refine wpOp_go (by rfl) (Eq.refl _) (by go_simp; done) ?_
        intro K hK
        go_simp
        try simp only [Act.put]
        refine (drop_any L2 A2 c2 bb p0 p1 p2 num den _ (hl2.more (Nat.le_refl _)) hbb H0.out H1.out HN.out HDn.out).mono ?_
        rw [HR2]
        rintro e w8 ⟨rfl, hB8⟩
        try have z := Blk.gr z hB8
        refine hK _ _ (Below.trans hS3 (hB8.mono (Below.size hS3))) ?_
        clear hK K hl2
        refine wpW_det (t' := ?ct5R47) 5 (by rfl) (by kernel_rfl) (NQ_free _) (by kernel_rfl) ?cw5R47 ?ch5R47 ?ca5R47 (Eq.refl _) ?cH5R47
        case cw5R47 => (go_simp; done)
        case ch5R47 =>
          intro ds w' hS K hK
          have hc := (bcell hS).1
          have hf := (bcell hS).2
          have hz := hS.size
          try simp at hz
          go_simp
          try go_bits
          first
            | exact hK _ hS (Gr.refl _)
            | exact hK _ (by repeat (first | (with_reducible exact Below.refl _ _) | (with_reducible assumption) | ((with_reducible refine Below.setCell ?_ ?_ _); rotate_left; · (first | exact Nat.le_refl _ | (simp; done) | (simp; omega) | omega)) | ((with_reducible refine Below.alloc ?_ ?_ _); rotate_left; · (first | exact Nat.le_refl _ | (simp; done) | (simp; omega) | omega)) | (with_reducible apply Below.drew) | (with_reducible apply below_drewN') | (refine Below.trans ?_ (Below.mono (by assumption) (by first | exact Nat.le_refl _ | (simp; done) | (simp; omega) | omega))) | exact Below.refl _ _ | assumption)) (by repeat (first | (with_reducible exact Below.refl _ _) | (with_reducible assumption) | ((with_reducible refine Below.setCell ?_ ?_ _); rotate_left; · (first | exact Nat.le_refl _ | (simp; done) | (simp; omega) | omega)) | ((with_reducible refine Below.alloc ?_ ?_ _); rotate_left; · (first | exact Nat.le_refl _ | (simp; done) | (simp; omega) | omega)) | (with_reducible apply Below.drew) | (with_reducible apply below_drewN') | (refine Below.trans ?_ (Below.mono (by assumption) (by first | exact Nat.le_refl _ | (simp; done) | (simp; omega) | omega))) | exact Below.refl _ _ | assumption))
        case ca5R47 => (first | (simp [Act.put]; done) | (simp [Act.put, *]; done))
        try dsimp only
        refine wpW_det (t' := ?ct6R47) 6 (by rfl) (by kernel_rfl) (NQ_free _) (by kernel_rfl) ?cw6R47 ?ch6R47 ?ca6R47 (Eq.refl _) ?cH6R47
        case cw6R47 => (go_simp; done)
        case ch6R47 =>
          intro ds w' hS K hK
          have hc := (bcell hS).1
          have hf := (bcell hS).2
          have hz := hS.size
          try simp at hz
          go_simp
          try go_bits
          first
            | exact hK _ hS (Gr.refl _)
            | exact hK _ (by repeat (first | (with_reducible exact Below.refl _ _) | (with_reducible assumption) | ((with_reducible refine Below.setCell ?_ ?_ _); rotate_left; · (first | exact Nat.le_refl _ | (simp; done) | (simp; omega) | omega)) | ((with_reducible refine Below.alloc ?_ ?_ _); rotate_left; · (first | exact Nat.le_refl _ | (simp; done) | (simp; omega) | omega)) | (with_reducible apply Below.drew) | (with_reducible apply below_drewN') | (refine Below.trans ?_ (Below.mono (by assumption) (by first | exact Nat.le_refl _ | (simp; done) | (simp; omega) | omega))) | exact Below.refl _ _ | assumption)) (by repeat (first | (with_reducible exact Below.refl _ _) | (with_reducible assumption) | ((with_reducible refine Below.setCell ?_ ?_ _); rotate_left; · (first | exact Nat.le_refl _ | (simp; done) | (simp; omega) | omega)) | ((with_reducible refine Below.alloc ?_ ?_ _); rotate_left; · (first | exact Nat.le_refl _ | (simp; done) | (simp; omega) | omega)) | (with_reducible apply Below.drew) | (with_reducible apply below_drewN') | (refine Below.trans ?_ (Below.mono (by assumption) (by first | exact Nat.le_refl _ | (simp; done) | (simp; omega) | omega))) | exact Below.refl _ _ | assumption))
        case ca6R47 => (first | (simp [Act.put]; done) | (simp [Act.put, *]; done))
        try dsimp only
        refine wpW_det (t' := ?ct7R47) 7 (by rfl) (by kernel_rfl) (NQ_free _) (by kernel_rfl) ?cw7R47 ?ch7R47 ?ca7R47 (Eq.refl _) ?cH7R47
        case cw7R47 => (go_simp; done)
        case ch7R47 =>
          intro ds w' hS K hK
          have hc := (bcell hS).1
          have hf := (bcell hS).2
          have hz := hS.size
          try simp at hz
          go_simp
          try go_bits
          first
            | exact hK _ hS (Gr.refl _)
            | exact hK _ (by repeat (first | (with_reducible exact Below.refl _ _) | (with_reducible assumption) | ((with_reducible refine Below.setCell ?_ ?_ _); rotate_left; · (first | exact Nat.le_refl _ | (simp; done) | (simp; omega) | omega)) | ((with_reducible refine Below.alloc ?_ ?_ _); rotate_left; · (first | exact Nat.le_refl _ | (simp; done) | (simp; omega) | omega)) | (with_reducible apply Below.drew) | (with_reducible apply below_drewN') | (refine Below.trans ?_ (Below.mono (by assumption) (by first | exact Nat.le_refl _ | (simp; done) | (simp; omega) | omega))) | exact Below.refl _ _ | assumption)) (by repeat (first | (with_reducible exact Below.refl _ _) | (with_reducible assumption) | ((with_reducible refine Below.setCell ?_ ?_ _); rotate_left; · (first | exact Nat.le_refl _ | (simp; done) | (simp; omega) | omega)) | ((with_reducible refine Below.alloc ?_ ?_ _); rotate_left; · (first | exact Nat.le_refl _ | (simp; done) | (simp; omega) | omega)) | (with_reducible apply Below.drew) | (with_reducible apply below_drewN') | (refine Below.trans ?_ (Below.mono (by assumption) (by first | exact Nat.le_refl _ | (simp; done) | (simp; omega) | omega))) | exact Below.refl _ _ | assumption))
        case ca7R47 => (first | (simp [Act.put]; done) | (simp [Act.put, *]; done))
        try dsimp only
        refine wpW_branch [9] (by kernel_rfl) (by simp) ?_
        intro w4 hg4 hS4
        try have z := Blk.gr z hg4
        try have hl2 := hl2.below hg4 hbb
        try have hbb := Nat.le_trans hbb (Below.size hg4)
        try (have zz := blk2c z; obtain ⟨z0, z1, zf⟩ := zz)
        try have lz := z.lt
        refine each_cons ?_ (each_nil)
        · refine wpOp_go (by rfl) (Eq.refl _) (by go_simp; done) ?_
          intro K hK
          go_simp
          try simp only [Act.put]
          have z := (z.set_ 0 (.int .i64 lo)).set_ 1 (.int .i64 hi)
          refine hK _ _ ((hS4.setCell hzp _).setCell hzp _) ?_
          clear hK K z0 z1 zf
          refine wpW_det (t' := ?ct10R48) 10 (by rfl) (by kernel_rfl) (NQ_free _) (by kernel_rfl) ?cw10R48 ?ch10R48 ?ca10R48 (Eq.refl _) ?cH10R48
          case cw10R48 => (go_simp; done)
          case ch10R48 =>
            intro ds w' hS K hK
            have hc := (bcell hS).1
            have hf := (bcell hS).2
            have hz := hS.size
            try simp at hz
            go_simp
            try go_bits
            first
              | exact hK _ hS (Gr.refl _)
              | exact hK _ (by repeat (first | (with_reducible exact Below.refl _ _) | (with_reducible assumption) | ((with_reducible refine Below.setCell ?_ ?_ _); rotate_left; · (first | exact Nat.le_refl _ | (simp; done) | (simp; omega) | omega)) | ((with_reducible refine Below.alloc ?_ ?_ _); rotate_left; · (first | exact Nat.le_refl _ | (simp; done) | (simp; omega) | omega)) | (with_reducible apply Below.drew) | (with_reducible apply below_drewN') | (refine Below.trans ?_ (Below.mono (by assumption) (by first | exact Nat.le_refl _ | (simp; done) | (simp; omega) | omega))) | exact Below.refl _ _ | assumption)) (by repeat (first | (with_reducible exact Below.refl _ _) | (with_reducible assumption) | ((with_reducible refine Below.setCell ?_ ?_ _); rotate_left; · (first | exact Nat.le_refl _ | (simp; done) | (simp; omega) | omega)) | ((with_reducible refine Below.alloc ?_ ?_ _); rotate_left; · (first | exact Nat.le_refl _ | (simp; done) | (simp; omega) | omega)) | (with_reducible apply Below.drew) | (with_reducible apply below_drewN') | (refine Below.trans ?_ (Below.mono (by assumption) (by first | exact Nat.le_refl _ | (simp; done) | (simp; omega) | omega))) | exact Below.refl _ _ | assumption))
          case ca10R48 => (first | (simp [Act.put]; done) | (simp [Act.put, *]; done))
          try dsimp only
          refine wpW_end (by kernel_rfl) ?_
          intro we hg hS
          unfold NQ
          dsimp only
          replace z := Blk.gr z hg
          exact H.out _ _ _ _ _ _ _ _ _ we z hzp hS

set_option maxRecDepth 100000 in
set_option maxHeartbeats 4000000 in
theorem flawDrops_any (l : List Sc) (A : Option Addr) (c : Nat) (p0 p1 p2 num den : Int) (w : World) (ha : ScArg l A c w) (h0 : W64 p0) (h1 : W64 p1) (hn : W64 num) (hd : W64 den) :
    Calls Tryz.prog 4 #[.slice A l.length c, .agg #[.int .i64 p0, .int .i64 p1, .int .i64 p2], .agg #[.int .i64 num, .int .i64 den]] w fun e w' => e = .returned (.bool true) ∧ Below w.heap.size w w' := by
  have H0 := Lib.hid h0; have H1 := Lib.hid h1; have HN := Lib.hid hn; have HDn := Lib.hid hd
  have HNIL := Lib.hid ha.nil
  have hle := ha.le
  have hmost := ha.most
  have b4 := (Blk.new w 43 #[.int .i64 p0, .int .i64 p1, .int .i64 p2]).alloc (.cells #[.int .i64 num, .int .i64 den] 45)
  have b5 := Blk.new (w.alloc (.cells #[.int .i64 p0, .int .i64 p1, .int .i64 p2] 43)) 45 #[.int .i64 num, .int .i64 den]
  have hBB : Below w.heap.size w ((w.alloc (.cells #[.int .i64 p0, .int .i64 p1, .int .i64 p2] 43)).alloc (.cells #[.int .i64 num, .int .i64 den] 45)) := (by repeat (first | (with_reducible exact Below.refl _ _) | (with_reducible assumption) | ((with_reducible refine Below.setCell ?_ ?_ _); rotate_left; · (first | exact Nat.le_refl _ | (simp; done) | (simp; omega) | omega)) | ((with_reducible refine Below.alloc ?_ ?_ _); rotate_left; · (first | exact Nat.le_refl _ | (simp; done) | (simp; omega) | omega)) | (with_reducible apply Below.drew) | (with_reducible apply below_drewN') | (refine Below.trans ?_ (Below.mono (by assumption) (by first | exact Nat.le_refl _ | (simp; done) | (simp; omega) | omega))) | exact Below.refl _ _ | assumption))
  simp only [World.size_alloc] at b5
  clear h0 h1 hn hd
  go_enter Tryz.func4, Tryz.ntmps4
  go_wp2_with fail
  obtain ⟨W, hW⟩ : ∃ W, (w.alloc (.cells #[.int .i64 p0, .int .i64 p1, .int .i64 p2] 43)).alloc (.cells #[.int .i64 num, .int .i64 den] 45) = W := ⟨_, rfl⟩
  rw [hW] at b4 b5 hBB ⊢
  clear hW
  refine (awake_any _).mono ?_
  rintro e w1 ⟨rfl, hB1⟩
  replace b4 := b4.gr hB1
  replace b5 := b5.gr hB1
  replace hBB := hBB.trans (hB1.mono (Below.size hBB))
  clear hB1
  have l_b4 := b4.lt
  obtain ⟨x0, x1, x2, f4⟩ := blk3c b4
  have l_b5 := b5.lt
  obtain ⟨y0, y1, f5⟩ := blk2c b5
  go_wp2_with fail
  refine (few_wide l A c w.heap.size _ (by omega) (ha.row.below hBB (Nat.le_refl _)) (Lib.hid (fun s hs => by have := (ha.each s hs).2.2; omega)) (Below.size hBB)).mono ?_
  rintro e wc1 ⟨rfl, hBc1⟩
  replace b4 := b4.gr hBc1
  replace b5 := b5.gr hBc1
  replace hBB := hBB.trans (Below.mono hBc1 (Below.size hBB))
  clear hBc1
  clear l_b4 x0 x1 x2 f4 l_b5 y0 y1 f5
  have l_b4 := b4.lt
  have l_b5 := b5.lt
  obtain ⟨x0, x1, x2, f4⟩ := blk3c b4
  obtain ⟨y0, y1, f5⟩ := blk2c b5
  cases hf : fewB l
  · go_wp2
    go_ret
    exact ⟨rfl, hBB⟩
  have hl := ha.ok hf
  obtain ⟨hl8, hd36⟩ := fewB_true hf
  have HD : Hid (∀ s ∈ l, s.data.length ≤ s.dcap ∧ (s.dA = none → s.dcap = 0)) := Lib.hid (fun s hs => ⟨(ha.each s hs).2.2.1, (ha.each s hs).1⟩)
  have HSZ : Hid (∀ s ∈ l, s.data.length ≤ 1000000000) := Lib.hid hl.size
  clear hf hd36 ha
  cases hw0 : wi p0 (-200000) 200000
  · have Q0 := Lib.hid hw0; clear hw0
    go_wp2_with (go_at_call 27; refine (bWithin_any _ _ _ _).mono ?_; rw [Q0.out]; rintro e w1 ⟨rfl, rfl⟩)
    go_ret
    exact ⟨rfl, hBB⟩
  cases hw1 : wi p1 (-200000) 200000
  · have Q0 := Lib.hid hw0; have Q1 := Lib.hid hw1; clear hw0 hw1
    go_wp2_with (go_at_call 27; refine (bWithin_any _ _ _ _).mono ?_; (first | rw [Q0.out] | rw [Q1.out]); rintro e w1 ⟨rfl, rfl⟩)
    go_ret
    exact ⟨rfl, hBB⟩
  have hp0 : -200000 ≤ p0 ∧ p0 ≤ 200000 := by simpa [wi] using hw0
  have hp1 : -200000 ≤ p1 ∧ p1 ≤ 200000 := by simpa [wi] using hw1
  have Q0 := Lib.hid hw0; have Q1 := Lib.hid hw1; clear hw0 hw1
  obtain ⟨D, hD⟩ : ∃ D, dropV l p0 p1 p2 num den = D := ⟨_, rfl⟩
  have K1 : Hid (∀ L : List Sc, L.map Sc.core = l.map Sc.core → dropV L p0 p1 p2 num den = D) := Lib.hid (fun L h => (dropV_core h _ _ _ _ _).trans hD)
  obtain ⟨E1, hE1⟩ : ∃ E, (scansE l).1 = E := ⟨_, rfl⟩
  obtain ⟨E2, hE2⟩ : ∃ E, (scansE l).2 = E := ⟨_, rfl⟩
  have HER : Hid (E2 ≠ 0 → D = ⟨0, 0, E2⟩) := Lib.hid (fun h => by rw [← hD, dropV_err (by rw [hE2]; exact h), hE2])
  have HE2 := Lib.hid hE2
  have HDD := Lib.hid hD
  have HE1 := Lib.hid hE1
  clear hD hE1 hE2
  obtain ⟨lo, hlo⟩ : ∃ x, D.lo = x := ⟨_, rfl⟩
  obtain ⟨hi, hhi⟩ : ∃ x, D.hi = x := ⟨_, rfl⟩
  obtain ⟨er, her⟩ : ∃ x, D.e = x := ⟨_, rfl⟩
  have HRC : Hid (reC D = .tuple #[.agg #[.int .i64 lo, .int .i64 hi], .int .i64 er]) := Lib.hid (by unfold reC; rw [hlo, hhi, her])
  have HER2 : Hid (E2 ≠ 0 → lo = 0 ∧ hi = 0 ∧ er = E2) := Lib.hid (fun h => by have := HER.out h; rw [← hlo, ← hhi, ← her, this]; exact ⟨rfl, rfl, rfl⟩)
  have HRL : Hid (∀ L : List Sc, L.map Sc.core = l.map Sc.core → reC (dropV L p0 p1 p2 num den) = .tuple #[.agg #[.int .i64 lo, .int .i64 hi], .int .i64 er]) := Lib.hid (fun L h => by rw [K1.out L h]; exact HRC.out)
  clear hlo hhi her HER
  go_wp2_with (go_at_call 27; refine (bWithin_any _ _ _ _).mono ?_; (first | rw [Q0.out] | rw [Q1.out]); rintro e w1 ⟨rfl, rfl⟩)
  go_upto_region 5 with fail
  have HL : Hid (∀ w', Below wc1.heap.size wc1 w' → ScOk l A w.heap.size w') := Lib.hid (fun w' h => hl.below (hBB.trans (h.mono (Below.size hBB))) (Nat.le_refl _))
  have hzw := Below.size hBB
  refine dropReg5 l A c w.heap.size p0 p1 p2 num den HL hzw hle hl8 HNIL HD HSZ b4 b5 H0 H1 HN HDn lo hi er HRL _ ?_
  intro t29 t30 t31 t32 t33 t34 t35 t36 z wz bz hzz hBz
  try dsimp only
  clear l_b4 x0 x1 x2 f4 l_b5 y0 y1 f5
  replace b4 := b4.gr hBz
  replace b5 := b5.gr hBz
  replace hBB := hBB.trans (hBz.mono (Below.size hBB))
  clear hBz HL hzw hzz
  have l_bz := bz.lt
  obtain ⟨g0, g1, fz⟩ := blk2c bz
  have l_b4 := b4.lt
  have l_b5 := b5.lt
  have l_bz := bz.lt
  obtain ⟨x0, x1, x2, f4⟩ := blk3c b4
  obtain ⟨y0, y1, f5⟩ := blk2c b5
  obtain ⟨g0, g1, fz⟩ := blk2c bz
  go_wp2_with fail
  refine (refCheckScans_any l A c w.heap.size _ (hl.below hBB (Nat.le_refl _)) (Below.size hBB)).mono ?_
  rw [HE1.out, HE2.out]
  rintro e wc2 ⟨rfl, hBc2⟩
  replace b4 := b4.gr hBc2
  replace b5 := b5.gr hBc2
  replace bz := bz.gr hBc2
  replace hBB := hBB.trans (Below.mono hBc2 (Below.size hBB))
  clear hBc2
  clear l_b4 x0 x1 x2 f4 l_b5 y0 y1 f5 l_bz g0 g1 fz
  have l_b4 := b4.lt
  have l_b5 := b5.lt
  have l_bz := bz.lt
  obtain ⟨x0, x1, x2, f4⟩ := blk3c b4
  obtain ⟨y0, y1, f5⟩ := blk2c b5
  obtain ⟨g0, g1, fz⟩ := blk2c bz
  go_upto_region 8 with fail
  have hzlt := bz.lt
  have hwy := Below.size hBB
  have b11 := Blk.new wc2 48 #[.int .i64 0, .int .i64 0]
  replace b4 := b4.alloc (.cells #[.int .i64 0, .int .i64 0] 48 (0, 0))
  replace b5 := b5.alloc (.cells #[.int .i64 0, .int .i64 0] 48 (0, 0))
  replace bz := bz.alloc (.cells #[.int .i64 0, .int .i64 0] 48 (0, 0))
  replace hBB := hBB.alloc (Below.size hBB) (.cells #[.int .i64 0, .int .i64 0] 48 (0, 0))
  clear l_b4 x0 x1 x2 f4 l_b5 y0 y1 f5 l_bz g0 g1 fz
  have l_b4 := b4.lt
  have l_b5 := b5.lt
  have l_bz := bz.lt
  have l_b11 := b11.lt
  obtain ⟨x0, x1, x2, f4⟩ := blk3c b4
  obtain ⟨y0, y1, f5⟩ := blk2c b5
  obtain ⟨g0, g1, fz⟩ := blk2c bz
  obtain ⟨k0, k1, f11⟩ := blk2c b11
  generalize hyy : wc2.heap.size = y at *
  generalize (wc2.alloc (.cells #[.int .i64 0, .int .i64 0] 48)) = wy at *
  have hzy : z ≠ y := by omega
  by_cases h0 : E2 = 0
  · subst h0
    go_wp2_with fail
    refine (refDrop_any l A c w.heap.size p0 p1 p2 num den _ (hl.below hBB (Nat.le_refl _)) (Below.size hBB) HE2.out hp0 hp1 HN.out HDn.out).mono ?_
    rw [HRL.out l rfl]
    rintro e wc3 ⟨rfl, hBc3⟩
    replace b4 := b4.gr hBc3
    replace b5 := b5.gr hBc3
    replace bz := bz.gr hBc3
    replace b11 := b11.gr hBc3
    replace hBB := hBB.trans (Below.mono hBc3 (Below.size hBB))
    clear hBc3
    clear l_b4 x0 x1 x2 f4 l_b5 y0 y1 f5 l_bz g0 g1 fz l_b11 k0 k1 f11
    have l_b4 := b4.lt
    have l_b5 := b5.lt
    have l_bz := bz.lt
    have l_b11 := b11.lt
    obtain ⟨x0, x1, x2, f4⟩ := blk3c b4
    obtain ⟨y0, y1, f5⟩ := blk2c b5
    obtain ⟨g0, g1, fz⟩ := blk2c bz
    obtain ⟨k0, k1, f11⟩ := blk2c b11
    have hq := eq_range_same lo hi
    go_wp2
    go_ret
    exact ⟨by first | rfl | (simp; done), (hBB.setCell (by simp; omega) _).setCell (by simp; omega) _⟩
  · obtain ⟨rfl, rfl, rfl⟩ := HER2.out h0
    have h0' : (er == 0) = false := by simpa using h0
    have hq := eq_range_same 0 0
    go_wp2
    go_ret
    exact ⟨by first | rfl | (simp; done), hBB⟩
end Go.Proofs.YtidgeagpgllkeaaGreat
