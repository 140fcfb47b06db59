/- Contract: two lists of marks, opened. -/
import Derived.Test.YtidgeagpgllkeaaGreatZcFpA
import Derived.Test.YtidgeagpgllkeaaGreatZcFeF
namespace Go.Proofs.YtidgeagpgllkeaaGreat
open Go.RowKit

theorem own_lower {W : World} {base base' e size n : Nat} {v : Value} {xs : List Value} (h : W.ownsRow base e size v n xs) (hb : base' ≤ base) : W.ownsRow base' e size v n xs := by
  refine ⟨h.1, ?_⟩
  rcases h.2 with h0 | ⟨g', cap, cur, hv, hbs, r⟩
  · exact .inl h0
  · exact .inr ⟨g', cap, cur, hv, Nat.le_trans hb hbs, r⟩
theorem LbM.far {V W : World} {p N q i : Nat} {F : List Int} {u : Value} (h : LbM V p N F W) (hq : p ≠ q) (hl : V.heap.size ≤ q) : LbM V p N F (W.setCell ⟨q, i, none⟩ u) :=
  ⟨ownsRow_setCell_other h.own (by simp [Value.ownBlock]; exact hq) u, h.below.setCell hl u⟩
/-- Two lists, and partners, in memory. -/
structure MaM (V : World) (q p0 p1 : Nat) (a0 a1 : Value) (n0 n1 : Nat) (slack : Int) (F0 F1 : List Int) (W : World) : Prop where
  box : Blk W q 200 #[a0, a1, .int .i64 slack, .slice (some ⟨p0, 0, none⟩) n0 n0, .slice (some ⟨p1, 0, none⟩) n1 n1]
  r0 : LbM V p0 n0 F0 W
  r1 : LbM V p1 n1 F1 W
  ne : p0 ≠ p1
  low : V.heap.size ≤ q
section
variable {V W W' : World} {q p0 p1 n0 n1 : Nat} {a0 a1 : Value} {slack : Int} {F0 F1 : List Int}
theorem MaM.gr (h : MaM V q p0 p1 a0 a1 n0 n1 slack F0 F1 W) (hk : Gr W W') : MaM V q p0 p1 a0 a1 n0 n1 slack F0 F1 W' := ⟨h.box.gr hk, h.r0.gr hk, h.r1.gr hk, h.ne, h.low⟩
theorem MaM.drew (h : MaM V q p0 p1 a0 a1 n0 n1 slack F0 F1 W) : MaM V q p0 p1 a0 a1 n0 n1 slack F0 F1 W.drew := ⟨h.box, h.r0.drew, h.r1.drew, h.ne, h.low⟩
theorem MaM.ne0 (h : MaM V q p0 p1 a0 a1 n0 n1 slack F0 F1 W) : q ≠ p0 := fun e => own_blk_ne h.r0.own h.box (by decide) (by rw [e]; rfl)
theorem MaM.ne1 (h : MaM V q p0 p1 a0 a1 n0 n1 slack F0 F1 W) : q ≠ p1 := fun e => own_blk_ne h.r1.own h.box (by decide) (by rw [e]; rfl)
theorem MaM.put0 (h : MaM V q p0 p1 a0 a1 n0 n1 slack F0 F1 W) (k : Nat) (x : Int) : MaM V q p0 p1 a0 a1 n0 n1 slack (F0.set k x) F1 (W.setCell ⟨p0, k, none⟩ (.int .i64 x)) :=
  ⟨h.box.far (p := ⟨p0, k, none⟩) h.ne0 _, h.r0.put k x, h.r1.far (fun e => h.ne e.symm) h.r0.low, h.ne, h.low⟩
theorem MaM.put1 (h : MaM V q p0 p1 a0 a1 n0 n1 slack F0 F1 W) (k : Nat) (x : Int) : MaM V q p0 p1 a0 a1 n0 n1 slack F0 (F1.set k x) (W.setCell ⟨p1, k, none⟩ (.int .i64 x)) :=
  ⟨h.box.far (p := ⟨p1, k, none⟩) h.ne1 _, h.r0.far h.ne h.r1.low, h.r1.put k x, h.ne, h.low⟩
end
def openE (l0 l1 : List Mk) (slack : Int) : Int := firstE [(marksE l0).2, (marksE l1).2, slackE slack]

set_option maxRecDepth 100000 in
set_option maxHeartbeats 4000000 in
/-- The partners of list 0 (region 8, round 0). -/
theorem openReg8_0 {V W : World} {q n c : Nat} {A : Option Addr} {x0 x1 x2 x3 x4 : Value} (hV : Below V.heap.size V W) (hq : V.heap.size ≤ q) (hn : n ≤ 1000) (b : Blk W q 200 #[x0, x1, x2, x3, x4]) {t0 t1 t2 t3 t4 t5 t6 t10 t11 t12 t13 t14 t15 t16 t17 t18 t19 t20 t21 t22 t23 t24 t25 t26 t27 t28 t29 t30 t31 t32 t33 t34 t35 t36 t37 t38 t39 t40 t41 t42 : Value} {ds : List Deferred} (Q : Exit → Act → World → Prop)
    (h : ∀ (t32 t33 t34 t35 t36 t37 t38 t39 t40 : Value) (p : Nat) (w' : World), Blk w' q 200 #[x0, x1, x2, .slice (some ⟨p, 0, none⟩) n n, x4] → LbM V p n (List.replicate n (-1)) w' → Q .normal ⟨#[t0, t1, t2, t3, t4, t5, t6, .pointer (some ⟨q, 0, none⟩), .int .i64 0, .slice A n c, t10, t11, t12, t13, t14, t15, t16, t17, t18, t19, t20, t21, t22, t23, t24, t25, t26, t27, t28, t29, t30, t31, t32, t33, t34, t35, t36, t37, t38, t39, t40, t41, t42], ds⟩ w') :
    (regOf Tryz.f132 8).wp Tryz.prog Q ⟨#[t0, t1, t2, t3, t4, t5, t6, .pointer (some ⟨q, 0, none⟩), .int .i64 0, .slice A n c, t10, t11, t12, t13, t14, t15, t16, t17, t18, t19, t20, t21, t22, t23, t24, t25, t26, t27, t28, t29, t30, t31, t32, t33, t34, t35, t36, t37, t38, t39, t40, t41, t42], ds⟩ W := by
  have H := Lib.hid h; clear h
  have b := b.drew
  skip
  have hV1 : Below V.heap.size V W.drew := hV.drew
  conv in (regOf _ _) => whnf
  refine wp_region_w (fun w' => Below V.heap.size _ w') (by kernel_rfl) (Below.refl _ _).drew ?_
  refine wpW_det (t' := ?ct0R1) 0 (by rfl) (by kernel_rfl) (NQ_free _) (by kernel_rfl) ?cw0R1 ?ch0R1 ?ca0R1 (Eq.refl _) ?cH0R1
  case cw0R1 => (go_simp; done)
  case ch0R1 =>
    intro ds w' hS K hK
    have hc := (bcellB hS).1
    have hf := (bcellB hS).2
    have hz := hS.size
    try simp at hz
    go_simp
    try go_bits
    first
      | exact hK _ hS (Gr.refl _)
      | exact hK _ (by repeat (first | (with_reducible exact Below.refl _ _) | (with_reducible assumption) | ((with_reducible refine Below.setCell ?_ ?_ _); rotate_left; · (first | exact Nat.le_refl _ | (simp; done) | (simp; omega) | omega)) | ((with_reducible refine Below.alloc ?_ ?_ _); rotate_left; · (first | exact Nat.le_refl _ | (simp; done) | (simp; omega) | omega)) | (with_reducible apply Below.drew) | (with_reducible apply below_drewN') | (refine Below.trans ?_ (Below.mono (by assumption) (by first | exact Nat.le_refl _ | (simp; done) | (simp; omega) | omega))) | exact Below.refl _ _ | assumption)) (by repeat (first | (with_reducible exact Below.refl _ _) | (with_reducible assumption) | ((with_reducible refine Below.setCell ?_ ?_ _); rotate_left; · (first | exact Nat.le_refl _ | (simp; done) | (simp; omega) | omega)) | ((with_reducible refine Below.alloc ?_ ?_ _); rotate_left; · (first | exact Nat.le_refl _ | (simp; done) | (simp; omega) | omega)) | (with_reducible apply Below.drew) | (with_reducible apply below_drewN') | (refine Below.trans ?_ (Below.mono (by assumption) (by first | exact Nat.le_refl _ | (simp; done) | (simp; omega) | omega))) | exact Below.refl _ _ | assumption))
  case ca0R1 => (first | (simp [Act.put]; done) | (simp [Act.put, *]; done))
  try dsimp only
  refine wpW_det (t' := ?ct1R1) 1 (by rfl) (by kernel_rfl) (NQ_free _) (by kernel_rfl) ?cw1R1 ?ch1R1 ?ca1R1 (Eq.refl _) ?cH1R1
  case cw1R1 => (go_simp; done)
  case ch1R1 =>
    intro ds w' hS K hK
    have hc := (bcellB hS).1
    have hf := (bcellB hS).2
    have hz := hS.size
    try simp at hz
    go_simp
    try go_bits
    first
      | exact hK _ hS (Gr.refl _)
      | exact hK _ (by repeat (first | (with_reducible exact Below.refl _ _) | (with_reducible assumption) | ((with_reducible refine Below.setCell ?_ ?_ _); rotate_left; · (first | exact Nat.le_refl _ | (simp; done) | (simp; omega) | omega)) | ((with_reducible refine Below.alloc ?_ ?_ _); rotate_left; · (first | exact Nat.le_refl _ | (simp; done) | (simp; omega) | omega)) | (with_reducible apply Below.drew) | (with_reducible apply below_drewN') | (refine Below.trans ?_ (Below.mono (by assumption) (by first | exact Nat.le_refl _ | (simp; done) | (simp; omega) | omega))) | exact Below.refl _ _ | assumption)) (by repeat (first | (with_reducible exact Below.refl _ _) | (with_reducible assumption) | ((with_reducible refine Below.setCell ?_ ?_ _); rotate_left; · (first | exact Nat.le_refl _ | (simp; done) | (simp; omega) | omega)) | ((with_reducible refine Below.alloc ?_ ?_ _); rotate_left; · (first | exact Nat.le_refl _ | (simp; done) | (simp; omega) | omega)) | (with_reducible apply Below.drew) | (with_reducible apply below_drewN') | (refine Below.trans ?_ (Below.mono (by assumption) (by first | exact Nat.le_refl _ | (simp; done) | (simp; omega) | omega))) | exact Below.refl _ _ | assumption))
  case ca1R1 => (first | (simp [Act.put]; done) | (simp [Act.put, *]; done))
  try dsimp only
  refine wpW_det (t' := ?ct3R1) 3 (by rfl) (by kernel_rfl) (NQ_free _) (by kernel_rfl) ?cw3R1 ?ch3R1 ?ca3R1 (Eq.refl _) ?cH3R1
  case cw3R1 => (go_simp; done)
  case ch3R1 =>
    intro ds w' hS K hK
    have hc := (bcellB hS).1
    have hf := (bcellB hS).2
    have hz := hS.size
    try simp at hz
    go_simp
    try go_bits
    first
      | exact hK _ hS (Gr.refl _)
      | exact hK _ (by repeat (first | (with_reducible exact Below.refl _ _) | (with_reducible assumption) | ((with_reducible refine Below.setCell ?_ ?_ _); rotate_left; · (first | exact Nat.le_refl _ | (simp; done) | (simp; omega) | omega)) | ((with_reducible refine Below.alloc ?_ ?_ _); rotate_left; · (first | exact Nat.le_refl _ | (simp; done) | (simp; omega) | omega)) | (with_reducible apply Below.drew) | (with_reducible apply below_drewN') | (refine Below.trans ?_ (Below.mono (by assumption) (by first | exact Nat.le_refl _ | (simp; done) | (simp; omega) | omega))) | exact Below.refl _ _ | assumption)) (by repeat (first | (with_reducible exact Below.refl _ _) | (with_reducible assumption) | ((with_reducible refine Below.setCell ?_ ?_ _); rotate_left; · (first | exact Nat.le_refl _ | (simp; done) | (simp; omega) | omega)) | ((with_reducible refine Below.alloc ?_ ?_ _); rotate_left; · (first | exact Nat.le_refl _ | (simp; done) | (simp; omega) | omega)) | (with_reducible apply Below.drew) | (with_reducible apply below_drewN') | (refine Below.trans ?_ (Below.mono (by assumption) (by first | exact Nat.le_refl _ | (simp; done) | (simp; omega) | omega))) | exact Below.refl _ _ | assumption))
  case ca3R1 => (first | (simp [Act.put]; done) | (simp [Act.put, *]; done))
  try dsimp only
  refine wpW_det (t' := ?ct4R1) 4 (by rfl) (by kernel_rfl) (NQ_free _) (by kernel_rfl) ?cw4R1 ?ch4R1 ?ca4R1 (Eq.refl _) ?cH4R1
  case cw4R1 => (go_simp; done)
  case ch4R1 =>
    intro ds w' hS K hK
    have hc := (bcellB hS).1
    have hf := (bcellB hS).2
    have hz := hS.size
    try simp at hz
    go_simp
    try go_bits
    first
      | exact hK _ hS (Gr.refl _)
      | exact hK _ (by repeat (first | (with_reducible exact Below.refl _ _) | (with_reducible assumption) | ((with_reducible refine Below.setCell ?_ ?_ _); rotate_left; · (first | exact Nat.le_refl _ | (simp; done) | (simp; omega) | omega)) | ((with_reducible refine Below.alloc ?_ ?_ _); rotate_left; · (first | exact Nat.le_refl _ | (simp; done) | (simp; omega) | omega)) | (with_reducible apply Below.drew) | (with_reducible apply below_drewN') | (refine Below.trans ?_ (Below.mono (by assumption) (by first | exact Nat.le_refl _ | (simp; done) | (simp; omega) | omega))) | exact Below.refl _ _ | assumption)) (by repeat (first | (with_reducible exact Below.refl _ _) | (with_reducible assumption) | ((with_reducible refine Below.setCell ?_ ?_ _); rotate_left; · (first | exact Nat.le_refl _ | (simp; done) | (simp; omega) | omega)) | ((with_reducible refine Below.alloc ?_ ?_ _); rotate_left; · (first | exact Nat.le_refl _ | (simp; done) | (simp; omega) | omega)) | (with_reducible apply Below.drew) | (with_reducible apply below_drewN') | (refine Below.trans ?_ (Below.mono (by assumption) (by first | exact Nat.le_refl _ | (simp; done) | (simp; omega) | omega))) | exact Below.refl _ _ | assumption))
  case ca4R1 => (first | (simp [Act.put]; done) | (simp [Act.put, *]; done))
  try dsimp only
  refine wpW_det (t' := ?ct6R1) 6 (by rfl) (by kernel_rfl) (NQ_free _) (by kernel_rfl) ?cw6R1 ?ch6R1 ?ca6R1 (Eq.refl _) ?cH6R1
  case cw6R1 => (go_simp; done)
  case ch6R1 =>
    intro ds w' hS K hK
    have hc := (bcellB hS).1
    have hf := (bcellB hS).2
    have hz := hS.size
    try simp at hz
    go_simp
    try go_bits
    first
      | exact hK _ hS (Gr.refl _)
      | exact hK _ (by repeat (first | (with_reducible exact Below.refl _ _) | (with_reducible assumption) | ((with_reducible refine Below.setCell ?_ ?_ _); rotate_left; · (first | exact Nat.le_refl _ | (simp; done) | (simp; omega) | omega)) | ((with_reducible refine Below.alloc ?_ ?_ _); rotate_left; · (first | exact Nat.le_refl _ | (simp; done) | (simp; omega) | omega)) | (with_reducible apply Below.drew) | (with_reducible apply below_drewN') | (refine Below.trans ?_ (Below.mono (by assumption) (by first | exact Nat.le_refl _ | (simp; done) | (simp; omega) | omega))) | exact Below.refl _ _ | assumption)) (by repeat (first | (with_reducible exact Below.refl _ _) | (with_reducible assumption) | ((with_reducible refine Below.setCell ?_ ?_ _); rotate_left; · (first | exact Nat.le_refl _ | (simp; done) | (simp; omega) | omega)) | ((with_reducible refine Below.alloc ?_ ?_ _); rotate_left; · (first | exact Nat.le_refl _ | (simp; done) | (simp; omega) | omega)) | (with_reducible apply Below.drew) | (with_reducible apply below_drewN') | (refine Below.trans ?_ (Below.mono (by assumption) (by first | exact Nat.le_refl _ | (simp; done) | (simp; omega) | omega))) | exact Below.refl _ _ | assumption))
  case ca6R1 => (first | (simp [Act.put]; done) | (simp [Act.put, *]; done))
  try dsimp only
  refine wpW_det (t' := ?ct7R1) 7 (by rfl) (by kernel_rfl) (NQ_free _) (by kernel_rfl) ?cw7R1 ?ch7R1 ?ca7R1 (Eq.refl _) ?cH7R1
  case cw7R1 => (go_simp; done)
  case ch7R1 =>
    intro ds w' hS K hK
    have hc := (bcellB hS).1
    have hf := (bcellB hS).2
    have hz := hS.size
    try simp at hz
    go_simp
    try go_bits
    first
      | exact hK _ hS (Gr.refl _)
      | exact hK _ (by repeat (first | (with_reducible exact Below.refl _ _) | (with_reducible assumption) | ((with_reducible refine Below.setCell ?_ ?_ _); rotate_left; · (first | exact Nat.le_refl _ | (simp; done) | (simp; omega) | omega)) | ((with_reducible refine Below.alloc ?_ ?_ _); rotate_left; · (first | exact Nat.le_refl _ | (simp; done) | (simp; omega) | omega)) | (with_reducible apply Below.drew) | (with_reducible apply below_drewN') | (refine Below.trans ?_ (Below.mono (by assumption) (by first | exact Nat.le_refl _ | (simp; done) | (simp; omega) | omega))) | exact Below.refl _ _ | assumption)) (by repeat (first | (with_reducible exact Below.refl _ _) | (with_reducible assumption) | ((with_reducible refine Below.setCell ?_ ?_ _); rotate_left; · (first | exact Nat.le_refl _ | (simp; done) | (simp; omega) | omega)) | ((with_reducible refine Below.alloc ?_ ?_ _); rotate_left; · (first | exact Nat.le_refl _ | (simp; done) | (simp; omega) | omega)) | (with_reducible apply Below.drew) | (with_reducible apply below_drewN') | (refine Below.trans ?_ (Below.mono (by assumption) (by first | exact Nat.le_refl _ | (simp; done) | (simp; omega) | omega))) | exact Below.refl _ _ | assumption))
  case ca7R1 => (first | (simp [Act.put]; done) | (simp [Act.put, *]; done))
  try dsimp only
  refine wpW_branch [2] (by kernel_rfl) (by simp) ?_
  intro w1 hg1 hS1
  have hV1 := hV1.trans (hg1.mono (Below.size hV1))
  have b := b.gr hg1
  try skip
  try have c0 := (hg1.cell (p := ⟨g, 0, none⟩) hgl).trans c0
  try have hgl := Nat.lt_of_lt_of_le hgl (Below.size hg1)
  try have M := LbM.gr M hg1
  have zz := blk5c b
  obtain ⟨z0, z1, z2, z3, z4, zf⟩ := zz
  have lq := b.lt
  refine each_cons ?_ (each_nil)
  · refine wpOp_go (by rfl) (Eq.refl _) (by go_simp; done) ?_
    intro K hK
    go_simp
    try simp only [Act.put]
    have bg := Blk.new w1 3 #[.int .i64 (-1)]
    have c0 := bg.cell 0
    have hgl := bg.lt
    obtain ⟨g, hge⟩ : ∃ g, w1.heap.size = g := ⟨_, rfl⟩
    have hgA : Gr w1 (w1.alloc (.cells #[.int .i64 (-1)] 3)) := (Below.refl _ _).alloc (Nat.le_refl _) _
    have hvz := Below.size hV1
    have hV1 := hV1.trans (hgA.mono (Below.size hV1))
    have b := b.gr hgA
    try skip
    rw [hge] at c0 hgl ⊢
    refine hK _ _ (hS1.alloc hvz _) ?_
    clear hK K hgA bg hge hvz
    refine wpW_branch [5] (by kernel_rfl) (by simp) ?_
    intro w2 hg2 hS2
    have hV1 := hV1.trans (hg2.mono (Below.size hV1))
    have b := b.gr hg2
    try skip
    try have c0 := (hg2.cell (p := ⟨g, 0, none⟩) hgl).trans c0
    try have hgl := Nat.lt_of_lt_of_le hgl (Below.size hg2)
    try have M := LbM.gr M hg2
    have zz := blk5c b
    obtain ⟨z0, z1, z2, z3, z4, zf⟩ := zz
    have lq := b.lt
    refine each_cons ?_ (each_nil)
    · refine wpOp_go (by rfl) (Eq.refl _) (by go_simp; done) ?_
      intro K hK
      go_simp
      try simp only [Act.put]
      refine (repeat_any n hn g _ c0 hgl).mono ?_
      rintro e w8 ⟨p, rfl, M1⟩
      have hg8 : Gr w2 w8 := M1.below
      have hvz := Below.size hV1
      have M : LbM V p n (List.replicate n (-1)) w8 := ⟨own_lower M1.own (Below.size hV1), hV1.trans (hg8.mono (Below.size hV1))⟩
      try skip
      have hV1 := hV1.trans (hg8.mono (Below.size hV1))
      have b := b.gr hg8
      try skip
      refine hK _ _ (hS2.trans (hg8.mono hvz)) ?_
      clear hK K c0 hgl M1 hg8 hvz
      refine wpW_branch [8] (by kernel_rfl) (by simp) ?_
      intro w3 hg3 hS3
      have hV1 := hV1.trans (hg3.mono (Below.size hV1))
      have b := b.gr hg3
      try skip
      try have c0 := (hg3.cell (p := ⟨g, 0, none⟩) hgl).trans c0
      try have hgl := Nat.lt_of_lt_of_le hgl (Below.size hg3)
      try have M := LbM.gr M hg3
      have zz := blk5c b
      obtain ⟨z0, z1, z2, z3, z4, zf⟩ := zz
      have lq := b.lt
      refine each_cons ?_ (each_nil)
      · refine wpOp_go (by rfl) (Eq.refl _) (by go_simp; done) ?_
        intro K hK
        go_simp
        try simp only [Act.put]
        refine hK _ _ hS3 ?_
        clear hK K
        refine wpW_branch [9] (by kernel_rfl) (by simp) ?_
        intro w4 hg4 hS4
        have hV1 := hV1.trans (hg4.mono (Below.size hV1))
        have b := b.gr hg4
        try skip
        try have c0 := (hg4.cell (p := ⟨g, 0, none⟩) hgl).trans c0
        try have hgl := Nat.lt_of_lt_of_le hgl (Below.size hg4)
        try have M := LbM.gr M hg4
        have zz := blk5c b
        obtain ⟨z0, z1, z2, z3, z4, zf⟩ := zz
        have lq := b.lt
        refine each_cons ?_ (each_nil)
        · refine wpOp_go (by rfl) (Eq.refl _) (by go_simp; done) ?_
          intro K hK
          go_simp
          try simp only [Act.put]
          have hqp : p ≠ q := fun e => own_blk_ne M.own b (by decide) (by rw [← e]; rfl)
          have b2 := b.set_ 3 (.slice (some ⟨p, 0, none⟩) n n)
          have M := M.far (i := 3) (u := .slice (some ⟨p, 0, none⟩) n n) hqp hq
          try skip
          try skip
          refine hK _ _ (hS4.setCell hq _) ?_
          clear hK K z0 z1 z2 z3 z4 zf lq
          refine wpW_end (by kernel_rfl) ?_
          intro we hg hS
          unfold NQ
          dsimp only
          exact H.out _ _ _ _ _ _ _ _ _ p we (b2.gr hg) (LbM.gr M hg)

set_option maxRecDepth 100000 in
set_option maxHeartbeats 4000000 in
/-- The partners of list 1 (region 8, round 1). -/
theorem openReg8_1 {V W : World} {q n c : Nat} {A : Option Addr} {x0 x1 x2 x3 x4 : Value} (hV : Below V.heap.size V W) (hq : V.heap.size ≤ q) (hn : n ≤ 1000) (b : Blk W q 200 #[x0, x1, x2, x3, x4]) {p0 n0 : Nat} {F0 : List Int} (M0 : LbM V p0 n0 F0 W) {t0 t1 t2 t3 t4 t5 t6 t10 t11 t12 t13 t14 t15 t16 t17 t18 t19 t20 t21 t22 t23 t24 t25 t26 t27 t28 t29 t30 t31 t32 t33 t34 t35 t36 t37 t38 t39 t40 t41 t42 : Value} {ds : List Deferred} (Q : Exit → Act → World → Prop)
    (h : ∀ (t32 t33 t34 t35 t36 t37 t38 t39 t40 : Value) (p : Nat) (w' : World), Blk w' q 200 #[x0, x1, x2, x3, .slice (some ⟨p, 0, none⟩) n n] → LbM V p n (List.replicate n (-1)) w' → LbM V p0 n0 F0 w' → p0 ≠ p → Q .normal ⟨#[t0, t1, t2, t3, t4, t5, t6, .pointer (some ⟨q, 0, none⟩), .int .i64 1, .slice A n c, t10, t11, t12, t13, t14, t15, t16, t17, t18, t19, t20, t21, t22, t23, t24, t25, t26, t27, t28, t29, t30, t31, t32, t33, t34, t35, t36, t37, t38, t39, t40, t41, t42], ds⟩ w') :
    (regOf Tryz.f132 8).wp Tryz.prog Q ⟨#[t0, t1, t2, t3, t4, t5, t6, .pointer (some ⟨q, 0, none⟩), .int .i64 1, .slice A n c, t10, t11, t12, t13, t14, t15, t16, t17, t18, t19, t20, t21, t22, t23, t24, t25, t26, t27, t28, t29, t30, t31, t32, t33, t34, t35, t36, t37, t38, t39, t40, t41, t42], ds⟩ W := by
  have H := Lib.hid h; clear h
  have b := b.drew
  have M0 := M0.drew
  have hV1 : Below V.heap.size V W.drew := hV.drew
  conv in (regOf _ _) => whnf
  refine wp_region_w (fun w' => Below V.heap.size _ w') (by kernel_rfl) (Below.refl _ _).drew ?_
  refine wpW_det (t' := ?ct0R2) 0 (by rfl) (by kernel_rfl) (NQ_free _) (by kernel_rfl) ?cw0R2 ?ch0R2 ?ca0R2 (Eq.refl _) ?cH0R2
  case cw0R2 => (go_simp; done)
  case ch0R2 =>
    intro ds w' hS K hK
    have hc := (bcellB hS).1
    have hf := (bcellB hS).2
    have hz := hS.size
    try simp at hz
    go_simp
    try go_bits
    first
      | exact hK _ hS (Gr.refl _)
      | exact hK _ (by repeat (first | (with_reducible exact Below.refl _ _) | (with_reducible assumption) | ((with_reducible refine Below.setCell ?_ ?_ _); rotate_left; · (first | exact Nat.le_refl _ | (simp; done) | (simp; omega) | omega)) | ((with_reducible refine Below.alloc ?_ ?_ _); rotate_left; · (first | exact Nat.le_refl _ | (simp; done) | (simp; omega) | omega)) | (with_reducible apply Below.drew) | (with_reducible apply below_drewN') | (refine Below.trans ?_ (Below.mono (by assumption) (by first | exact Nat.le_refl _ | (simp; done) | (simp; omega) | omega))) | exact Below.refl _ _ | assumption)) (by repeat (first | (with_reducible exact Below.refl _ _) | (with_reducible assumption) | ((with_reducible refine Below.setCell ?_ ?_ _); rotate_left; · (first | exact Nat.le_refl _ | (simp; done) | (simp; omega) | omega)) | ((with_reducible refine Below.alloc ?_ ?_ _); rotate_left; · (first | exact Nat.le_refl _ | (simp; done) | (simp; omega) | omega)) | (with_reducible apply Below.drew) | (with_reducible apply below_drewN') | (refine Below.trans ?_ (Below.mono (by assumption) (by first | exact Nat.le_refl _ | (simp; done) | (simp; omega) | omega))) | exact Below.refl _ _ | assumption))
  case ca0R2 => (first | (simp [Act.put]; done) | (simp [Act.put, *]; done))
  try dsimp only
  refine wpW_det (t' := ?ct1R2) 1 (by rfl) (by kernel_rfl) (NQ_free _) (by kernel_rfl) ?cw1R2 ?ch1R2 ?ca1R2 (Eq.refl _) ?cH1R2
  case cw1R2 => (go_simp; done)
  case ch1R2 =>
    intro ds w' hS K hK
    have hc := (bcellB hS).1
    have hf := (bcellB hS).2
    have hz := hS.size
    try simp at hz
    go_simp
    try go_bits
    first
      | exact hK _ hS (Gr.refl _)
      | exact hK _ (by repeat (first | (with_reducible exact Below.refl _ _) | (with_reducible assumption) | ((with_reducible refine Below.setCell ?_ ?_ _); rotate_left; · (first | exact Nat.le_refl _ | (simp; done) | (simp; omega) | omega)) | ((with_reducible refine Below.alloc ?_ ?_ _); rotate_left; · (first | exact Nat.le_refl _ | (simp; done) | (simp; omega) | omega)) | (with_reducible apply Below.drew) | (with_reducible apply below_drewN') | (refine Below.trans ?_ (Below.mono (by assumption) (by first | exact Nat.le_refl _ | (simp; done) | (simp; omega) | omega))) | exact Below.refl _ _ | assumption)) (by repeat (first | (with_reducible exact Below.refl _ _) | (with_reducible assumption) | ((with_reducible refine Below.setCell ?_ ?_ _); rotate_left; · (first | exact Nat.le_refl _ | (simp; done) | (simp; omega) | omega)) | ((with_reducible refine Below.alloc ?_ ?_ _); rotate_left; · (first | exact Nat.le_refl _ | (simp; done) | (simp; omega) | omega)) | (with_reducible apply Below.drew) | (with_reducible apply below_drewN') | (refine Below.trans ?_ (Below.mono (by assumption) (by first | exact Nat.le_refl _ | (simp; done) | (simp; omega) | omega))) | exact Below.refl _ _ | assumption))
  case ca1R2 => (first | (simp [Act.put]; done) | (simp [Act.put, *]; done))
  try dsimp only
  refine wpW_det (t' := ?ct3R2) 3 (by rfl) (by kernel_rfl) (NQ_free _) (by kernel_rfl) ?cw3R2 ?ch3R2 ?ca3R2 (Eq.refl _) ?cH3R2
  case cw3R2 => (go_simp; done)
  case ch3R2 =>
    intro ds w' hS K hK
    have hc := (bcellB hS).1
    have hf := (bcellB hS).2
    have hz := hS.size
    try simp at hz
    go_simp
    try go_bits
    first
      | exact hK _ hS (Gr.refl _)
      | exact hK _ (by repeat (first | (with_reducible exact Below.refl _ _) | (with_reducible assumption) | ((with_reducible refine Below.setCell ?_ ?_ _); rotate_left; · (first | exact Nat.le_refl _ | (simp; done) | (simp; omega) | omega)) | ((with_reducible refine Below.alloc ?_ ?_ _); rotate_left; · (first | exact Nat.le_refl _ | (simp; done) | (simp; omega) | omega)) | (with_reducible apply Below.drew) | (with_reducible apply below_drewN') | (refine Below.trans ?_ (Below.mono (by assumption) (by first | exact Nat.le_refl _ | (simp; done) | (simp; omega) | omega))) | exact Below.refl _ _ | assumption)) (by repeat (first | (with_reducible exact Below.refl _ _) | (with_reducible assumption) | ((with_reducible refine Below.setCell ?_ ?_ _); rotate_left; · (first | exact Nat.le_refl _ | (simp; done) | (simp; omega) | omega)) | ((with_reducible refine Below.alloc ?_ ?_ _); rotate_left; · (first | exact Nat.le_refl _ | (simp; done) | (simp; omega) | omega)) | (with_reducible apply Below.drew) | (with_reducible apply below_drewN') | (refine Below.trans ?_ (Below.mono (by assumption) (by first | exact Nat.le_refl _ | (simp; done) | (simp; omega) | omega))) | exact Below.refl _ _ | assumption))
  case ca3R2 => (first | (simp [Act.put]; done) | (simp [Act.put, *]; done))
  try dsimp only
  refine wpW_det (t' := ?ct4R2) 4 (by rfl) (by kernel_rfl) (NQ_free _) (by kernel_rfl) ?cw4R2 ?ch4R2 ?ca4R2 (Eq.refl _) ?cH4R2
  case cw4R2 => (go_simp; done)
  case ch4R2 =>
    intro ds w' hS K hK
    have hc := (bcellB hS).1
    have hf := (bcellB hS).2
    have hz := hS.size
    try simp at hz
    go_simp
    try go_bits
    first
      | exact hK _ hS (Gr.refl _)
      | exact hK _ (by repeat (first | (with_reducible exact Below.refl _ _) | (with_reducible assumption) | ((with_reducible refine Below.setCell ?_ ?_ _); rotate_left; · (first | exact Nat.le_refl _ | (simp; done) | (simp; omega) | omega)) | ((with_reducible refine Below.alloc ?_ ?_ _); rotate_left; · (first | exact Nat.le_refl _ | (simp; done) | (simp; omega) | omega)) | (with_reducible apply Below.drew) | (with_reducible apply below_drewN') | (refine Below.trans ?_ (Below.mono (by assumption) (by first | exact Nat.le_refl _ | (simp; done) | (simp; omega) | omega))) | exact Below.refl _ _ | assumption)) (by repeat (first | (with_reducible exact Below.refl _ _) | (with_reducible assumption) | ((with_reducible refine Below.setCell ?_ ?_ _); rotate_left; · (first | exact Nat.le_refl _ | (simp; done) | (simp; omega) | omega)) | ((with_reducible refine Below.alloc ?_ ?_ _); rotate_left; · (first | exact Nat.le_refl _ | (simp; done) | (simp; omega) | omega)) | (with_reducible apply Below.drew) | (with_reducible apply below_drewN') | (refine Below.trans ?_ (Below.mono (by assumption) (by first | exact Nat.le_refl _ | (simp; done) | (simp; omega) | omega))) | exact Below.refl _ _ | assumption))
  case ca4R2 => (first | (simp [Act.put]; done) | (simp [Act.put, *]; done))
  try dsimp only
  refine wpW_det (t' := ?ct6R2) 6 (by rfl) (by kernel_rfl) (NQ_free _) (by kernel_rfl) ?cw6R2 ?ch6R2 ?ca6R2 (Eq.refl _) ?cH6R2
  case cw6R2 => (go_simp; done)
  case ch6R2 =>
    intro ds w' hS K hK
    have hc := (bcellB hS).1
    have hf := (bcellB hS).2
    have hz := hS.size
    try simp at hz
    go_simp
    try go_bits
    first
      | exact hK _ hS (Gr.refl _)
      | exact hK _ (by repeat (first | (with_reducible exact Below.refl _ _) | (with_reducible assumption) | ((with_reducible refine Below.setCell ?_ ?_ _); rotate_left; · (first | exact Nat.le_refl _ | (simp; done) | (simp; omega) | omega)) | ((with_reducible refine Below.alloc ?_ ?_ _); rotate_left; · (first | exact Nat.le_refl _ | (simp; done) | (simp; omega) | omega)) | (with_reducible apply Below.drew) | (with_reducible apply below_drewN') | (refine Below.trans ?_ (Below.mono (by assumption) (by first | exact Nat.le_refl _ | (simp; done) | (simp; omega) | omega))) | exact Below.refl _ _ | assumption)) (by repeat (first | (with_reducible exact Below.refl _ _) | (with_reducible assumption) | ((with_reducible refine Below.setCell ?_ ?_ _); rotate_left; · (first | exact Nat.le_refl _ | (simp; done) | (simp; omega) | omega)) | ((with_reducible refine Below.alloc ?_ ?_ _); rotate_left; · (first | exact Nat.le_refl _ | (simp; done) | (simp; omega) | omega)) | (with_reducible apply Below.drew) | (with_reducible apply below_drewN') | (refine Below.trans ?_ (Below.mono (by assumption) (by first | exact Nat.le_refl _ | (simp; done) | (simp; omega) | omega))) | exact Below.refl _ _ | assumption))
  case ca6R2 => (first | (simp [Act.put]; done) | (simp [Act.put, *]; done))
  try dsimp only
  refine wpW_det (t' := ?ct7R2) 7 (by rfl) (by kernel_rfl) (NQ_free _) (by kernel_rfl) ?cw7R2 ?ch7R2 ?ca7R2 (Eq.refl _) ?cH7R2
  case cw7R2 => (go_simp; done)
  case ch7R2 =>
    intro ds w' hS K hK
    have hc := (bcellB hS).1
    have hf := (bcellB hS).2
    have hz := hS.size
    try simp at hz
    go_simp
    try go_bits
    first
      | exact hK _ hS (Gr.refl _)
      | exact hK _ (by repeat (first | (with_reducible exact Below.refl _ _) | (with_reducible assumption) | ((with_reducible refine Below.setCell ?_ ?_ _); rotate_left; · (first | exact Nat.le_refl _ | (simp; done) | (simp; omega) | omega)) | ((with_reducible refine Below.alloc ?_ ?_ _); rotate_left; · (first | exact Nat.le_refl _ | (simp; done) | (simp; omega) | omega)) | (with_reducible apply Below.drew) | (with_reducible apply below_drewN') | (refine Below.trans ?_ (Below.mono (by assumption) (by first | exact Nat.le_refl _ | (simp; done) | (simp; omega) | omega))) | exact Below.refl _ _ | assumption)) (by repeat (first | (with_reducible exact Below.refl _ _) | (with_reducible assumption) | ((with_reducible refine Below.setCell ?_ ?_ _); rotate_left; · (first | exact Nat.le_refl _ | (simp; done) | (simp; omega) | omega)) | ((with_reducible refine Below.alloc ?_ ?_ _); rotate_left; · (first | exact Nat.le_refl _ | (simp; done) | (simp; omega) | omega)) | (with_reducible apply Below.drew) | (with_reducible apply below_drewN') | (refine Below.trans ?_ (Below.mono (by assumption) (by first | exact Nat.le_refl _ | (simp; done) | (simp; omega) | omega))) | exact Below.refl _ _ | assumption))
  case ca7R2 => (first | (simp [Act.put]; done) | (simp [Act.put, *]; done))
  try dsimp only
  refine wpW_branch [2] (by kernel_rfl) (by simp) ?_
  intro w1 hg1 hS1
  have hV1 := hV1.trans (hg1.mono (Below.size hV1))
  have b := b.gr hg1
  have M0 := LbM.gr M0 hg1
  try have c0 := (hg1.cell (p := ⟨g, 0, none⟩) hgl).trans c0
  try have hgl := Nat.lt_of_lt_of_le hgl (Below.size hg1)
  try have M := LbM.gr M hg1
  have zz := blk5c b
  obtain ⟨z0, z1, z2, z3, z4, zf⟩ := zz
  have lq := b.lt
  refine each_cons ?_ (each_nil)
  · refine wpOp_go (by rfl) (Eq.refl _) (by go_simp; done) ?_
    intro K hK
    go_simp
    try simp only [Act.put]
    have bg := Blk.new w1 3 #[.int .i64 (-1)]
    have c0 := bg.cell 0
    have hgl := bg.lt
    obtain ⟨g, hge⟩ : ∃ g, w1.heap.size = g := ⟨_, rfl⟩
    have hgA : Gr w1 (w1.alloc (.cells #[.int .i64 (-1)] 3)) := (Below.refl _ _).alloc (Nat.le_refl _) _
    have hvz := Below.size hV1
    have hV1 := hV1.trans (hgA.mono (Below.size hV1))
    have b := b.gr hgA
    have M0 := LbM.gr M0 hgA
    rw [hge] at c0 hgl ⊢
    refine hK _ _ (hS1.alloc hvz _) ?_
    clear hK K hgA bg hge hvz
    refine wpW_branch [5] (by kernel_rfl) (by simp) ?_
    intro w2 hg2 hS2
    have hV1 := hV1.trans (hg2.mono (Below.size hV1))
    have b := b.gr hg2
    have M0 := LbM.gr M0 hg2
    try have c0 := (hg2.cell (p := ⟨g, 0, none⟩) hgl).trans c0
    try have hgl := Nat.lt_of_lt_of_le hgl (Below.size hg2)
    try have M := LbM.gr M hg2
    have zz := blk5c b
    obtain ⟨z0, z1, z2, z3, z4, zf⟩ := zz
    have lq := b.lt
    refine each_cons ?_ (each_nil)
    · refine wpOp_go (by rfl) (Eq.refl _) (by go_simp; done) ?_
      intro K hK
      go_simp
      try simp only [Act.put]
      refine (repeat_any n hn g _ c0 hgl).mono ?_
      rintro e w8 ⟨p, rfl, M1⟩
      have hg8 : Gr w2 w8 := M1.below
      have hvz := Below.size hV1
      have M : LbM V p n (List.replicate n (-1)) w8 := ⟨own_lower M1.own (Below.size hV1), hV1.trans (hg8.mono (Below.size hV1))⟩
      have hpp : p0 ≠ p := fun e => by have := M1.low; have := M0.lt; omega
      have hV1 := hV1.trans (hg8.mono (Below.size hV1))
      have b := b.gr hg8
      have M0 := LbM.gr M0 hg8
      refine hK _ _ (hS2.trans (hg8.mono hvz)) ?_
      clear hK K c0 hgl M1 hg8 hvz
      refine wpW_branch [8] (by kernel_rfl) (by simp) ?_
      intro w3 hg3 hS3
      have hV1 := hV1.trans (hg3.mono (Below.size hV1))
      have b := b.gr hg3
      have M0 := LbM.gr M0 hg3
      try have c0 := (hg3.cell (p := ⟨g, 0, none⟩) hgl).trans c0
      try have hgl := Nat.lt_of_lt_of_le hgl (Below.size hg3)
      try have M := LbM.gr M hg3
      have zz := blk5c b
      obtain ⟨z0, z1, z2, z3, z4, zf⟩ := zz
      have lq := b.lt
      refine each_cons ?_ (each_nil)
      · refine wpOp_go (by rfl) (Eq.refl _) (by go_simp; done) ?_
        intro K hK
        go_simp
        try simp only [Act.put]
        refine hK _ _ hS3 ?_
        clear hK K
        refine wpW_branch [9] (by kernel_rfl) (by simp) ?_
        intro w4 hg4 hS4
        have hV1 := hV1.trans (hg4.mono (Below.size hV1))
        have b := b.gr hg4
        have M0 := LbM.gr M0 hg4
        try have c0 := (hg4.cell (p := ⟨g, 0, none⟩) hgl).trans c0
        try have hgl := Nat.lt_of_lt_of_le hgl (Below.size hg4)
        try have M := LbM.gr M hg4
        have zz := blk5c b
        obtain ⟨z0, z1, z2, z3, z4, zf⟩ := zz
        have lq := b.lt
        refine each_cons ?_ (each_nil)
        · refine wpOp_go (by rfl) (Eq.refl _) (by go_simp; done) ?_
          intro K hK
          go_simp
          try simp only [Act.put]
          have hqp : p ≠ q := fun e => own_blk_ne M.own b (by decide) (by rw [← e]; rfl)
          have b2 := b.set_ 4 (.slice (some ⟨p, 0, none⟩) n n)
          have M := M.far (i := 4) (u := .slice (some ⟨p, 0, none⟩) n n) hqp hq
          have hq0 : p0 ≠ q := fun e => own_blk_ne M0.own b (by decide) (by rw [← e]; rfl)
          have M0 := M0.far (i := 4) (u := .slice (some ⟨p, 0, none⟩) n n) hq0 hq
          refine hK _ _ (hS4.setCell hq _) ?_
          clear hK K z0 z1 z2 z3 z4 zf lq
          refine wpW_end (by kernel_rfl) ?_
          intro we hg hS
          unfold NQ
          dsimp only
          exact H.out _ _ _ _ _ _ _ _ _ p we (b2.gr hg) (LbM.gr M hg) (LbM.gr M0 hg) hpp

def MaK (V : World) (q : Nat) (a0 a1 : Value) (n0 n1 : Nat) (slack : Int) : Nat → World → Prop
  | 0, W => Blk W q 200 #[a0, a1, .int .i64 slack, .slice none 0 0, .slice none 0 0] ∧ Below V.heap.size V W
  | 1, W => ∃ p0, Blk W q 200 #[a0, a1, .int .i64 slack, .slice (some ⟨p0, 0, none⟩) n0 n0, .slice none 0 0] ∧ LbM V p0 n0 (List.replicate n0 (-1)) W
  | _ + 2, W => ∃ p0 p1, MaM V q p0 p1 a0 a1 n0 n1 slack (List.replicate n0 (-1)) (List.replicate n1 (-1)) W

set_option maxRecDepth 100000 in
set_option maxHeartbeats 4000000 in
theorem openLists_bad (l0 l1 : List Mk) (A0 A1 : Option Addr) (c0 c1 B : Nat) (slack : Int) (w : World) (h0 : MkOk l0 A0 B w) (h1 : MkOk l1 A1 B w) (hc0 : l0.length ≤ c0) (hc1 : l1.length ≤ c1) (hB : B ≤ w.heap.size) (he : openE l0 l1 slack ≠ 0) :
    Calls Tryz.prog 132 #[.agg #[.slice A0 l0.length c0, .slice A1 l1.length c1], .int .i64 slack] w fun e w' => e = .returned (.tuple #[.pointer none, .int .i64 (openE l0 l1 slack)]) ∧ Below w.heap.size w w' := by
  obtain ⟨E, hE⟩ : ∃ E, openE l0 l1 slack = E := ⟨_, rfl⟩
  have HP : Hid (firstE [(marksE l0).2, (marksE l1).2, slackE slack] = E) := Lib.hid hE
  rw [hE] at he ⊢
  clear hE
  have b2 := Blk.new w 124 #[.slice A0 l0.length c0, .slice A1 l1.length c1]
  have hBB : Below w.heap.size w (w.alloc (.cells #[.slice A0 l0.length c0, .slice A1 l1.length c1] 124)) := (by repeat (first | (with_reducible exact Below.refl _ _) | (with_reducible assumption) | ((with_reducible refine Below.setCell ?_ ?_ _); rotate_left; · (first | exact Nat.le_refl _ | (simp; done) | (simp; omega) | omega)) | ((with_reducible refine Below.alloc ?_ ?_ _); rotate_left; · (first | exact Nat.le_refl _ | (simp; done) | (simp; omega) | omega)) | (with_reducible apply Below.drew) | (with_reducible apply below_drewN') | (refine Below.trans ?_ (Below.mono (by assumption) (by first | exact Nat.le_refl _ | (simp; done) | (simp; omega) | omega))) | exact Below.refl _ _ | assumption))
  go_enter Tryz.func132, Tryz.ntmps132
  go_wp2_with fail
  obtain ⟨W, hW⟩ : ∃ W, w.alloc (.cells #[.slice A0 l0.length c0, .slice A1 l1.length c1] 124) = W := ⟨_, rfl⟩
  rw [hW] at b2 hBB ⊢
  clear hW
  have hzW := Below.size hBB
  have h0W := Lib.hid (h0.below hBB hB)
  have h1W := Lib.hid (h1.below hBB hB)
  have l_b2 := b2.lt
  obtain ⟨d0, d1, f2⟩ := blk2c b2
  refine wp_region_b 8 (by kernel_rfl) (by kernel_rfl) ?_; simp only [List.take, List.drop]
  repeat (first
    | (apply StepsD.run
       · go_simp
         done
       · intro w' hS K hK
         have hc := (bcell hS).1
         have hf := (bcell hS).2
         have hz := hS.size
         try simp at hz
         go_simp
         try go_bits
         first
           | exact hK _ hS
           | (go_at_call 99; (with_reducible refine (listErr_any l0 A0 c0 B _ (h0W.out.below hS (by omega)) hc0 (by omega) |>.mono ?_)); rintro e w1 ⟨rfl, hB1⟩; obtain ⟨hc1, hf1⟩ := bcell hB1; have hz1 := hB1.size; (try simp at hz1); exact hK _ (Below.trans hS (Below.mono hB1 (by first | exact Nat.le_refl _ | (simp; done) | (simp; omega) | omega))))
           | (go_at_call 99; (with_reducible refine (listErr_any l1 A1 c1 B _ (h1W.out.below hS (by omega)) hc1 (by omega) |>.mono ?_)); rintro e w1 ⟨rfl, hB1⟩; obtain ⟨hc1, hf1⟩ := bcell hB1; have hz1 := hB1.size; (try simp at hz1); exact hK _ (Below.trans hS (Below.mono hB1 (by first | exact Nat.le_refl _ | (simp; done) | (simp; omega) | omega))))
           | (go_at_call 126; (with_reducible refine (slackErr_any slack _).mono ?_); rintro e w1 ⟨rfl, rfl⟩; exact hK _ hS)
           | exact hK _ (by repeat (first | (with_reducible exact Below.refl _ _) | (with_reducible assumption) | ((with_reducible refine Below.setCell ?_ ?_ _); rotate_left; · (first | exact Nat.le_refl _ | (simp; done) | (simp; omega) | omega)) | ((with_reducible refine Below.alloc ?_ ?_ _); rotate_left; · (first | exact Nat.le_refl _ | (simp; done) | (simp; omega) | omega)) | (with_reducible apply Below.drew) | (with_reducible apply below_drewN') | (refine Below.trans ?_ (Below.mono (by assumption) (by first | exact Nat.le_refl _ | (simp; done) | (simp; omega) | omega))) | exact Below.refl _ _ | assumption))
       · simp [Act.put]
         done)
    | (apply StepsD.pass
       · go_simp
         done
       · simp only [Act.put, List.setIfInBounds_toArray, List.set_cons_succ, List.set_cons_zero]
         rfl))
  refine StepsD.done ?_
  intro w1 hS
  replace b2 := b2.gr hS
  replace hBB := hBB.trans (Below.mono hS (Below.size hBB))
  clear hS
  clear l_b2 d0 d1 f2
  have l_b2 := b2.lt
  obtain ⟨d0, d1, f2⟩ := blk2c b2
  go_wp2_with fail
  refine (first3_any _ _ _ _ _).mono ?_
  rw [HP.out]
  rintro e wc1 ⟨rfl, hBc1⟩
  replace b2 := b2.gr hBc1
  replace hBB := hBB.trans (Below.mono hBc1 (Below.size hBB))
  clear hBc1
  clear l_b2 d0 d1 f2
  have l_b2 := b2.lt
  obtain ⟨d0, d1, f2⟩ := blk2c b2
  have h0' : (E != 0) = true := by simpa using he
  go_wp2
  go_ret2
  exact ⟨rfl, hBB⟩

set_option maxRecDepth 100000 in
set_option maxHeartbeats 4000000 in
theorem openLists_ok (l0 l1 : List Mk) (A0 A1 : Option Addr) (c0 c1 B : Nat) (slack : Int) (w : World) (h0 : MkOk l0 A0 B w) (h1 : MkOk l1 A1 B w) (hc0 : l0.length ≤ c0) (hc1 : l1.length ≤ c1) (hB : B ≤ w.heap.size) (hn0 : l0.length ≤ 1000) (hn1 : l1.length ≤ 1000) (he : openE l0 l1 slack = 0) :
    Calls Tryz.prog 132 #[.agg #[.slice A0 l0.length c0, .slice A1 l1.length c1], .int .i64 slack] w fun e w' => ∃ q p0 p1, e = .returned (.tuple #[.pointer (some ⟨q, 0, none⟩), .int .i64 0]) ∧ MaM w q p0 p1 (.slice A0 l0.length c0) (.slice A1 l1.length c1) l0.length l1.length slack (List.replicate l0.length (-1)) (List.replicate l1.length (-1)) w' := by
  obtain ⟨E, hE⟩ : ∃ E, openE l0 l1 slack = E := ⟨_, rfl⟩
  have HP : Hid (firstE [(marksE l0).2, (marksE l1).2, slackE slack] = E) := Lib.hid hE
  rw [hE] at he; subst he
  clear hE
  have b2 := Blk.new w 124 #[.slice A0 l0.length c0, .slice A1 l1.length c1]
  have hBB : Below w.heap.size w (w.alloc (.cells #[.slice A0 l0.length c0, .slice A1 l1.length c1] 124)) := (by repeat (first | (with_reducible exact Below.refl _ _) | (with_reducible assumption) | ((with_reducible refine Below.setCell ?_ ?_ _); rotate_left; · (first | exact Nat.le_refl _ | (simp; done) | (simp; omega) | omega)) | ((with_reducible refine Below.alloc ?_ ?_ _); rotate_left; · (first | exact Nat.le_refl _ | (simp; done) | (simp; omega) | omega)) | (with_reducible apply Below.drew) | (with_reducible apply below_drewN') | (refine Below.trans ?_ (Below.mono (by assumption) (by first | exact Nat.le_refl _ | (simp; done) | (simp; omega) | omega))) | exact Below.refl _ _ | assumption))
  go_enter Tryz.func132, Tryz.ntmps132
  go_wp2_with fail
  obtain ⟨W, hW⟩ : ∃ W, w.alloc (.cells #[.slice A0 l0.length c0, .slice A1 l1.length c1] 124) = W := ⟨_, rfl⟩
  rw [hW] at b2 hBB ⊢
  clear hW
  have hzW := Below.size hBB
  have h0W := Lib.hid (h0.below hBB hB)
  have h1W := Lib.hid (h1.below hBB hB)
  have l_b2 := b2.lt
  obtain ⟨d0, d1, f2⟩ := blk2c b2
  refine wp_region_b 8 (by kernel_rfl) (by kernel_rfl) ?_; simp only [List.take, List.drop]
  repeat (first
    | (apply StepsD.run
       · go_simp
         done
       · intro w' hS K hK
         have hc := (bcell hS).1
         have hf := (bcell hS).2
         have hz := hS.size
         try simp at hz
         go_simp
         try go_bits
         first
           | exact hK _ hS
           | (go_at_call 99; (with_reducible refine (listErr_any l0 A0 c0 B _ (h0W.out.below hS (by omega)) hc0 (by omega) |>.mono ?_)); rintro e w1 ⟨rfl, hB1⟩; obtain ⟨hc1, hf1⟩ := bcell hB1; have hz1 := hB1.size; (try simp at hz1); exact hK _ (Below.trans hS (Below.mono hB1 (by first | exact Nat.le_refl _ | (simp; done) | (simp; omega) | omega))))
           | (go_at_call 99; (with_reducible refine (listErr_any l1 A1 c1 B _ (h1W.out.below hS (by omega)) hc1 (by omega) |>.mono ?_)); rintro e w1 ⟨rfl, hB1⟩; obtain ⟨hc1, hf1⟩ := bcell hB1; have hz1 := hB1.size; (try simp at hz1); exact hK _ (Below.trans hS (Below.mono hB1 (by first | exact Nat.le_refl _ | (simp; done) | (simp; omega) | omega))))
           | (go_at_call 126; (with_reducible refine (slackErr_any slack _).mono ?_); rintro e w1 ⟨rfl, rfl⟩; exact hK _ hS)
           | exact hK _ (by repeat (first | (with_reducible exact Below.refl _ _) | (with_reducible assumption) | ((with_reducible refine Below.setCell ?_ ?_ _); rotate_left; · (first | exact Nat.le_refl _ | (simp; done) | (simp; omega) | omega)) | ((with_reducible refine Below.alloc ?_ ?_ _); rotate_left; · (first | exact Nat.le_refl _ | (simp; done) | (simp; omega) | omega)) | (with_reducible apply Below.drew) | (with_reducible apply below_drewN') | (refine Below.trans ?_ (Below.mono (by assumption) (by first | exact Nat.le_refl _ | (simp; done) | (simp; omega) | omega))) | exact Below.refl _ _ | assumption))
       · simp [Act.put]
         done)
    | (apply StepsD.pass
       · go_simp
         done
       · simp only [Act.put, List.setIfInBounds_toArray, List.set_cons_succ, List.set_cons_zero]
         rfl))
  refine StepsD.done ?_
  intro w1 hS
  replace b2 := b2.gr hS
  replace hBB := hBB.trans (Below.mono hS (Below.size hBB))
  clear hS
  clear l_b2 d0 d1 f2
  have l_b2 := b2.lt
  obtain ⟨d0, d1, f2⟩ := blk2c b2
  go_wp2_with fail
  refine (first3_any _ _ _ _ _).mono ?_
  rw [HP.out]
  rintro e wc2 ⟨rfl, hBc2⟩
  replace b2 := b2.gr hBc2
  replace hBB := hBB.trans (Below.mono hBc2 (Below.size hBB))
  clear hBc2
  clear l_b2 d0 d1 f2
  have l_b2 := b2.lt
  obtain ⟨d0, d1, f2⟩ := blk2c b2
  go_wp2_with fail
  have hix : ∀ (u v : Value) (W : World), (Instr.index 124 (.agg #[u, v]) (.int .i64 0)).run Tryz.prog W = .ok u W ∧ (Instr.index 124 (.agg #[u, v]) (.int .i64 1)).run Tryz.prog W = .ok v W := fun u v W => ⟨by kernel_rfl, by kernel_rfl⟩
  have bq := Blk.new wc2 200 #[.slice A0 l0.length c0, .slice A1 l1.length c1, .int .i64 slack, .slice none 0 0, .slice none 0 0]
  have hgA : Below wc2.heap.size wc2 (wc2.alloc (.cells #[.slice A0 l0.length c0, .slice A1 l1.length c1, .int .i64 slack, .slice none 0 0, .slice none 0 0] 200)) := (Below.refl _ _).alloc (Nat.le_refl _) _
  have hzq := Below.size hBB
  have hBQ := hBB.trans (hgA.mono hzq)
  obtain ⟨q, hq⟩ : ∃ q, wc2.heap.size = q := ⟨_, rfl⟩
  rw [hq] at bq hzq ⊢
  clear hgA hBB b2 d0 d1 f2 l_b2
  obtain ⟨W5, hW5⟩ : ∃ W5, wc2.alloc (.cells #[.slice A0 l0.length c0, .slice A1 l1.length c1, .int .i64 slack, .slice none 0 0, .slice none 0 0] 200) = W5 := ⟨_, rfl⟩
  rw [hW5] at bq hBQ ⊢
  clear hW5 hq
  obtain ⟨x0, hx0⟩ : ∃ x, x = (.slice A0 l0.length c0 : Value) := ⟨_, rfl⟩
  go_loopw [28] (fun s28 wr => ∃ k : Nat, k ≤ 2 ∧ s28 = .int .i64 k ∧ MaK w q (.slice A0 l0.length c0) (.slice A1 l1.length c1) l0.length l1.length slack k wr) (fun s28 _ => 2 - (intOf s28).toNat)
  case atStart => exact ⟨0, by omega, rfl, bq, hBQ⟩
  case round =>
    clear bq hBQ
    obtain ⟨k, hk, rfl, M⟩ := hrel
    rcases (by omega : k = 0 ∨ k = 1 ∨ k = 2) with rfl | rfl | rfl
    · obtain ⟨bq, hBQ⟩ := M
      have hi := (hix (.slice A0 l0.length c0) (.slice A1 l1.length c1) wr).1
      go_upto_region 8 with fail
      refine openReg8_0 hBQ hzq hn0 bq _ ?_
      intro t32 t33 t34 t35 t36 t37 t38 t39 t40 p w' b' M'
      try go_wp2
      exact ⟨⟨1, by omega, rfl, p, b', M'⟩, by simp [intOf]⟩
    · obtain ⟨p0, bq, M0⟩ := M
      have hi := (hix (.slice A0 l0.length c0) (.slice A1 l1.length c1) wr).2
      go_upto_region 8 with fail
      refine openReg8_1 M0.below hzq hn1 bq M0 _ ?_
      intro t32 t33 t34 t35 t36 t37 t38 t39 t40 p w' b' M' M0' hpp
      try go_wp2
      exact ⟨⟨2, by omega, rfl, p0, p, b', M0', M', hpp, hzq⟩, by simp [intOf]⟩
    · obtain ⟨p0, p1, M⟩ := M
      go_wp2
      go_ret2
      exact ⟨q, p0, p1, rfl, M⟩
end Go.Proofs.YtidgeagpgllkeaaGreat
