/- Contract of the law CoverSpots: true. -/
import Derived.Test.YtfbnpfhnffahdaaGreatDoorCxG
import Derived.Test.YtfbnpfhnffahdaaGreatDoorCwI
namespace Go.Proofs.YtfbnpfhnffahdaaGreatDoor
open Go.RowKit

theorem blk3p {w : World} {g t : Nat} {v0 v1 v2 v3 : Value} (h : Blk w g t #[v0, v1, v2, v3]) : w.cell? ⟨g, 0, none⟩ = some v0 ∧ w.cell? ⟨g, 1, none⟩ = some v1 ∧ w.cell? ⟨g, 2, none⟩ = some v2 ∧ w.cell? ⟨g, 3, none⟩ = some v3 := ⟨h.cell 0, h.cell 1, h.cell 2, h.cell 3⟩
theorem spotR_bad {j : Jo} {face n d : Int} (h : (if openFaceE j face = 0 then ptE n d else openFaceE j face) ≠ 0) : spotR j face n d = ⟨0, 0, if openFaceE j face = 0 then ptE n d else openFaceE j face⟩ := by
  unfold spotR
  by_cases h0 : openFaceE j face = 0
  · rw [if_pos h0] at h ⊢
    rw [if_neg h, if_pos h0]
  · rw [if_neg h0, if_neg h0]
theorem openFaceE_joint {j : Jo} {face : Int} (h : (jointE j).2 ≠ 0) : openFaceE j face = (jointE j).2 := by unfold openFaceE; rw [if_neg h]

set_option maxRecDepth 100000 in
set_option maxHeartbeats 8000000 in
theorem coverSpots_any (j : Jo) (A : Option Addr) (c B : Nat) (p0 p1 p2 p3 x z : Int) (w : World) (hn : j.fs.length ≤ c) (hc : c ≤ 9223372036854775807) (hR : Row w B 5 A j.fs.length (fcsC j.fs)) (hB : B ≤ w.heap.size) (hA : A = none → c = 0)
    (h0 : I64 p0) (h1 : I64 p1) (hx : I64 x) (hz : I64 z) (hE : Ends w) :
    Calls Tryz.prog 8 #[.agg (joC j A c), .agg #[.int .i64 p0, .int .i64 p1, .int .i64 p2, .int .i64 p3], .agg #[.int .i64 x, .int .i64 z]] w fun e w' => e = .returned (.bool true) ∧ Below w.heap.size w w' := by
  have hBB : Below w.heap.size w (((w.alloc (.cells (joC j A c) 24)).alloc (.cells #[.int .i64 p0, .int .i64 p1, .int .i64 p2, .int .i64 p3] 51)).alloc (.cells #[.int .i64 x, .int .i64 z] 55)) := (((Below.refl _ _).alloc (Nat.le_refl _) _).alloc (by simp) _).alloc (by simp; omega) _
  have HE : Hid (∀ W, Below w.heap.size w W → Ends W) := Lib.hid fun W h => hE.below h
  clear hE
  have HA := Lib.hid hA; clear hA
  have b := ((Blk.new w 24 (joC j A c)).alloc (.cells #[.int .i64 p0, .int .i64 p1, .int .i64 p2, .int .i64 p3] 51 (0, 0))).alloc (.cells #[.int .i64 x, .int .i64 z] 55 (0, 0))
  have y := (Blk.new' (w.alloc (.cells (joC j A c) 24)) 51 #[.int .i64 p0, .int .i64 p1, .int .i64 p2, .int .i64 p3] (g := w.heap.size + 1) (by simp)).alloc (.cells #[.int .i64 x, .int .i64 z] 55 (0, 0))
  have o := Blk.new' ((w.alloc (.cells (joC j A c) 24)).alloc (.cells #[.int .i64 p0, .int .i64 p1, .int .i64 p2, .int .i64 p3] 51)) 55 #[.int .i64 x, .int .i64 z] (g := w.heap.size + 1 + 1) (by simp)
  unfold joC at *
  go_enter Tryz.func8, Tryz.ntmps8
  have l_b := b.lt
  obtain ⟨t0, t1, t2, t3⟩ := jo_cells b
  have l_y := y.lt
  obtain ⟨u0, u1, u2, u3⟩ := blk3p y
  have l_o := o.lt
  obtain ⟨v0, v1, _⟩ := blk2 o
  go_wp2_with fail
  refine (awake_any _ (HE.out _ hBB)).mono ?_
  rintro e wc1 ⟨rfl, hBc1⟩
  replace b := b.gr hBc1
  replace y := y.gr hBc1
  replace o := o.gr hBc1
  replace hBB := hBB.trans (Below.mono hBc1 (Below.size hBB))
  clear hBc1
  clear l_b t0 t1 t2 t3 l_y u0 u1 u2 u3 l_o v0 v1
  have l_b := b.lt
  have l_y := y.lt
  have l_o := o.lt
  obtain ⟨t0, t1, t2, t3⟩ := jo_cells b
  obtain ⟨u0, u1, u2, u3⟩ := blk3p y
  obtain ⟨v0, v1, _⟩ := blk2 o
  cases hf : fewB j
  case false =>
    go_wp2_with fail
    refine (few_any j A c B _ (hR.below hBB hB) (Nat.le_trans hB (Below.size hBB))).mono ?_
    rw [hf]
    rintro e wc2 ⟨rfl, hBc2⟩
    replace b := b.gr hBc2
    replace y := y.gr hBc2
    replace o := o.gr hBc2
    replace hBB := hBB.trans (Below.mono hBc2 (Below.size hBB))
    clear hBc2
    clear l_b t0 t1 t2 t3 l_y u0 u1 u2 u3 l_o v0 v1
    have l_b := b.lt
    have l_y := y.lt
    have l_o := o.lt
    obtain ⟨t0, t1, t2, t3⟩ := jo_cells b
    obtain ⟨u0, u1, u2, u3⟩ := blk3p y
    obtain ⟨v0, v1, _⟩ := blk2 o
    go_wp2
    go_ret
    exact ⟨rfl, hBB⟩
  go_wp2_with fail
  refine (few_any j A c B _ (hR.below hBB hB) (Nat.le_trans hB (Below.size hBB))).mono ?_
  rw [hf]
  rintro e wc3 ⟨rfl, hBc3⟩
  replace b := b.gr hBc3
  replace y := y.gr hBc3
  replace o := o.gr hBc3
  replace hBB := hBB.trans (Below.mono hBc3 (Below.size hBB))
  clear hBc3
  clear l_b t0 t1 t2 t3 l_y u0 u1 u2 u3 l_o v0 v1
  have l_b := b.lt
  have l_y := y.lt
  have l_o := o.lt
  obtain ⟨t0, t1, t2, t3⟩ := jo_cells b
  obtain ⟨u0, u1, u2, u3⟩ := blk3p y
  obtain ⟨v0, v1, _⟩ := blk2 o
  obtain ⟨f1, f2, f3⟩ := fewB_all hf
  have HJ : Hid (∀ W, Below w.heap.size w W → JoOk j A c B W) := Lib.hid fun W h => JoOk.mk_ f3 f2 hn hc (hR.below h hB) (Nat.le_trans hB (Below.size h))
  clear f2 f3 hf hR
  obtain ⟨r, hr⟩ : ∃ r, spotR j p2 p0 p1 = r := ⟨_, rfl⟩
  have HP := Lib.hid hr
  obtain ⟨q, hq⟩ : ∃ q, inZoneR j x z = q := ⟨_, rfl⟩
  have HQ := Lib.hid hq
  clear hr hq
  go_upto_region 6 with fail
  clear l_b t0 t1 t2 t3 l_y u0 u1 u2 u3 l_o v0 v1
  go_cut [8, 9] (fun s8 s9 wx => ∃ p : Nat, s8 = .pointer (some ⟨p, 0, none⟩) ∧ s9 = .int .i64 r.e ∧ Blk wx p 55 #[.int .i64 r.x, .int .i64 r.z] ∧ Below w.heap.size w wx ∧ Below wc3.heap.size wc3 wx)
  case first =>
    have l_b := b.lt
    have l_y := y.lt
    have l_o := o.lt
    obtain ⟨t0, t1, t2, t3⟩ := jo_cells b
    obtain ⟨u0, u1, u2, u3⟩ := blk3p y
    obtain ⟨v0, v1, _⟩ := blk2 o
    go_wp2_with fail
    refine wp_region_w (Gr _) (by kernel_rfl) (Below.refl _ _).drew ?_
    refine wpW_det (t' := ?ct0R2) 0 (by rfl) (by kernel_rfl) (NQ_free _) (by kernel_rfl) ?cw0R2 ?ch0R2 ?ca0R2 (Eq.refl _) ?cH0R2
    case cw0R2 => (go_simp; done)
    case ch0R2 =>
      intro ds w' hS K hK
      have hc := (bcell hS).1
      have hf := (bcell hS).2
      have hz := hS.size
      try simp at hz
      go_simp
      try go_bits
      first
        | exact hK _ hS (Gr.refl _)
        | exact hK _ (by repeat (first | (with_reducible exact Below.refl _ _) | (with_reducible assumption) | ((with_reducible refine Below.setCell ?_ ?_ _); rotate_left; · (first | exact Nat.le_refl _ | (simp; done) | (simp; omega) | omega)) | ((with_reducible refine Below.alloc ?_ ?_ _); rotate_left; · (first | exact Nat.le_refl _ | (simp; done) | (simp; omega) | omega)) | (with_reducible apply Below.drew) | (with_reducible apply below_drewN') | (refine Below.trans ?_ (Below.mono (by assumption) (by first | exact Nat.le_refl _ | (simp; done) | (simp; omega) | omega))) | exact Below.refl _ _ | assumption)) (by repeat (first | (with_reducible exact Below.refl _ _) | (with_reducible assumption) | ((with_reducible refine Below.setCell ?_ ?_ _); rotate_left; · (first | exact Nat.le_refl _ | (simp; done) | (simp; omega) | omega)) | ((with_reducible refine Below.alloc ?_ ?_ _); rotate_left; · (first | exact Nat.le_refl _ | (simp; done) | (simp; omega) | omega)) | (with_reducible apply Below.drew) | (with_reducible apply below_drewN') | (refine Below.trans ?_ (Below.mono (by assumption) (by first | exact Nat.le_refl _ | (simp; done) | (simp; omega) | omega))) | exact Below.refl _ _ | assumption))
    case ca0R2 => (first | (simp [Act.put]; done) | (simp [Act.put, *]; done))
    try dsimp only
    refine wpW_det (t' := ?ct2R2) 2 (by rfl) (by kernel_rfl) (NQ_free _) (by kernel_rfl) ?cw2R2 ?ch2R2 ?ca2R2 (Eq.refl _) ?cH2R2
    case cw2R2 => (go_simp; done)
    case ch2R2 =>
      intro ds w' hS K hK
      have hc := (bcell hS).1
      have hf := (bcell hS).2
      have hz := hS.size
      try simp at hz
      go_simp
      try go_bits
      first
        | exact hK _ hS (Gr.refl _)
        | exact hK _ (by repeat (first | (with_reducible exact Below.refl _ _) | (with_reducible assumption) | ((with_reducible refine Below.setCell ?_ ?_ _); rotate_left; · (first | exact Nat.le_refl _ | (simp; done) | (simp; omega) | omega)) | ((with_reducible refine Below.alloc ?_ ?_ _); rotate_left; · (first | exact Nat.le_refl _ | (simp; done) | (simp; omega) | omega)) | (with_reducible apply Below.drew) | (with_reducible apply below_drewN') | (refine Below.trans ?_ (Below.mono (by assumption) (by first | exact Nat.le_refl _ | (simp; done) | (simp; omega) | omega))) | exact Below.refl _ _ | assumption)) (by repeat (first | (with_reducible exact Below.refl _ _) | (with_reducible assumption) | ((with_reducible refine Below.setCell ?_ ?_ _); rotate_left; · (first | exact Nat.le_refl _ | (simp; done) | (simp; omega) | omega)) | ((with_reducible refine Below.alloc ?_ ?_ _); rotate_left; · (first | exact Nat.le_refl _ | (simp; done) | (simp; omega) | omega)) | (with_reducible apply Below.drew) | (with_reducible apply below_drewN') | (refine Below.trans ?_ (Below.mono (by assumption) (by first | exact Nat.le_refl _ | (simp; done) | (simp; omega) | omega))) | exact Below.refl _ _ | assumption))
    case ca2R2 => (first | (simp [Act.put]; done) | (simp [Act.put, *]; done))
    try dsimp only
    refine wpW_det (t' := ?ct3R2) 3 (by rfl) (by kernel_rfl) (NQ_free _) (by kernel_rfl) ?cw3R2 ?ch3R2 ?ca3R2 (Eq.refl _) ?cH3R2
    case cw3R2 => (go_simp; done)
    case ch3R2 =>
      intro ds w' hS K hK
      have hc := (bcell hS).1
      have hf := (bcell hS).2
      have hz := hS.size
      try simp at hz
      go_simp
      try go_bits
      first
        | exact hK _ hS (Gr.refl _)
        | exact hK _ (by repeat (first | (with_reducible exact Below.refl _ _) | (with_reducible assumption) | ((with_reducible refine Below.setCell ?_ ?_ _); rotate_left; · (first | exact Nat.le_refl _ | (simp; done) | (simp; omega) | omega)) | ((with_reducible refine Below.alloc ?_ ?_ _); rotate_left; · (first | exact Nat.le_refl _ | (simp; done) | (simp; omega) | omega)) | (with_reducible apply Below.drew) | (with_reducible apply below_drewN') | (refine Below.trans ?_ (Below.mono (by assumption) (by first | exact Nat.le_refl _ | (simp; done) | (simp; omega) | omega))) | exact Below.refl _ _ | assumption)) (by repeat (first | (with_reducible exact Below.refl _ _) | (with_reducible assumption) | ((with_reducible refine Below.setCell ?_ ?_ _); rotate_left; · (first | exact Nat.le_refl _ | (simp; done) | (simp; omega) | omega)) | ((with_reducible refine Below.alloc ?_ ?_ _); rotate_left; · (first | exact Nat.le_refl _ | (simp; done) | (simp; omega) | omega)) | (with_reducible apply Below.drew) | (with_reducible apply below_drewN') | (refine Below.trans ?_ (Below.mono (by assumption) (by first | exact Nat.le_refl _ | (simp; done) | (simp; omega) | omega))) | exact Below.refl _ _ | assumption))
    case ca3R2 => (first | (simp [Act.put]; done) | (simp [Act.put, *]; done))
    try dsimp only
    refine wpW_det (t' := ?ct4R2) 4 (by rfl) (by kernel_rfl) (NQ_free _) (by kernel_rfl) ?cw4R2 ?ch4R2 ?ca4R2 (Eq.refl _) ?cH4R2
    case cw4R2 => (go_simp; done)
    case ch4R2 =>
      intro ds w' hS K hK
      have hc := (bcell hS).1
      have hf := (bcell hS).2
      have hz := hS.size
      try simp at hz
      go_simp
      try go_bits
      first
        | exact hK _ hS (Gr.refl _)
        | exact hK _ (by repeat (first | (with_reducible exact Below.refl _ _) | (with_reducible assumption) | ((with_reducible refine Below.setCell ?_ ?_ _); rotate_left; · (first | exact Nat.le_refl _ | (simp; done) | (simp; omega) | omega)) | ((with_reducible refine Below.alloc ?_ ?_ _); rotate_left; · (first | exact Nat.le_refl _ | (simp; done) | (simp; omega) | omega)) | (with_reducible apply Below.drew) | (with_reducible apply below_drewN') | (refine Below.trans ?_ (Below.mono (by assumption) (by first | exact Nat.le_refl _ | (simp; done) | (simp; omega) | omega))) | exact Below.refl _ _ | assumption)) (by repeat (first | (with_reducible exact Below.refl _ _) | (with_reducible assumption) | ((with_reducible refine Below.setCell ?_ ?_ _); rotate_left; · (first | exact Nat.le_refl _ | (simp; done) | (simp; omega) | omega)) | ((with_reducible refine Below.alloc ?_ ?_ _); rotate_left; · (first | exact Nat.le_refl _ | (simp; done) | (simp; omega) | omega)) | (with_reducible apply Below.drew) | (with_reducible apply below_drewN') | (refine Below.trans ?_ (Below.mono (by assumption) (by first | exact Nat.le_refl _ | (simp; done) | (simp; omega) | omega))) | exact Below.refl _ _ | assumption))
    case ca4R2 => (first | (simp [Act.put]; done) | (simp [Act.put, *]; done))
    try dsimp only
    refine wpW_branch [1, 9] (by kernel_rfl) (by simp) ?_
    intro w1 hg1 hS1
    try have s := Blk.gr s hg1
    try have hj6 := hj6.below hg1 hj6.base
    try (have zz := blk2 s; obtain ⟨z0, z1, zf⟩ := zz)
    try have lz := s.lt
    refine each_cons ?_ (each_cons ?_ (each_nil))
    · refine wpOp_go (by rfl) (Eq.refl _) (by go_simp; done) ?_
      intro K hK
      go_simp
      try simp only [Act.put]
      have hj5 := HJ.out _ (hBB.trans (Below.mono hS1 (Below.size hBB)))
      refine (copyJoint_any j A c B _ hj5 HA.out (by omega)).mono ?_
      rintro e w6 ⟨v, rfl, own6, hB6⟩
      obtain ⟨A6, c6, rfl, hj6, hA6⟩ := copied hj5 own6
      try have s := Blk.gr s hB6
      refine hK _ _ (Below.trans hS1 (hB6.mono (Below.size hS1))) ?_
      clear hK K own6 hj5
      refine wpW_branch [5, 9] (by kernel_rfl) (by simp) ?_
      intro w2 hg2 hS2
      try have s := Blk.gr s hg2
      try have hj6 := hj6.below hg2 hj6.base
      try (have zz := blk2 s; obtain ⟨z0, z1, zf⟩ := zz)
      try have lz := s.lt
      refine each_cons ?_ (each_cons ?_ (each_nil))
      · refine wpOp_go (by rfl) (Eq.refl _) (by go_simp; done) ?_
        intro K hK
        go_simp
        try simp only [Act.put]
        refine (spotAt_any j p2 p0 p1 A6 c6 w6.heap.size _ hj6 h0 h1).mono ?_
        rw [HP.out]
        unfold srC
        rintro e w8 ⟨rfl, hB8⟩
        try have s := Blk.gr s hB8
        refine hK _ _ (Below.trans hS2 (hB8.mono (Below.size hS2))) ?_
        clear hK K
        refine wpW_det (t' := ?ct6R3) 6 (by rfl) (by kernel_rfl) (NQ_free _) (by kernel_rfl) ?cw6R3 ?ch6R3 ?ca6R3 (Eq.refl _) ?cH6R3
        case cw6R3 => (go_simp; done)
        case ch6R3 =>
          intro ds w' hS K hK
          have hc := (bcell hS).1
          have hf := (bcell hS).2
          have hz := hS.size
          try simp at hz
          go_simp
          try go_bits
          first
            | exact hK _ hS (Gr.refl _)
            | exact hK _ (by repeat (first | (with_reducible exact Below.refl _ _) | (with_reducible assumption) | ((with_reducible refine Below.setCell ?_ ?_ _); rotate_left; · (first | exact Nat.le_refl _ | (simp; done) | (simp; omega) | omega)) | ((with_reducible refine Below.alloc ?_ ?_ _); rotate_left; · (first | exact Nat.le_refl _ | (simp; done) | (simp; omega) | omega)) | (with_reducible apply Below.drew) | (with_reducible apply below_drewN') | (refine Below.trans ?_ (Below.mono (by assumption) (by first | exact Nat.le_refl _ | (simp; done) | (simp; omega) | omega))) | exact Below.refl _ _ | assumption)) (by repeat (first | (with_reducible exact Below.refl _ _) | (with_reducible assumption) | ((with_reducible refine Below.setCell ?_ ?_ _); rotate_left; · (first | exact Nat.le_refl _ | (simp; done) | (simp; omega) | omega)) | ((with_reducible refine Below.alloc ?_ ?_ _); rotate_left; · (first | exact Nat.le_refl _ | (simp; done) | (simp; omega) | omega)) | (with_reducible apply Below.drew) | (with_reducible apply below_drewN') | (refine Below.trans ?_ (Below.mono (by assumption) (by first | exact Nat.le_refl _ | (simp; done) | (simp; omega) | omega))) | exact Below.refl _ _ | assumption))
        case ca6R3 => (first | (simp [Act.put]; done) | (simp [Act.put, *]; done))
        try dsimp only
        refine wpW_det (t' := ?ct7R3) 7 (by rfl) (by kernel_rfl) (NQ_free _) (by kernel_rfl) ?cw7R3 ?ch7R3 ?ca7R3 (Eq.refl _) ?cH7R3
        case cw7R3 => (go_simp; done)
        case ch7R3 =>
          intro ds w' hS K hK
          have hc := (bcell hS).1
          have hf := (bcell hS).2
          have hz := hS.size
          try simp at hz
          go_simp
          try go_bits
          first
            | exact hK _ hS (Gr.refl _)
            | exact hK _ (by repeat (first | (with_reducible exact Below.refl _ _) | (with_reducible assumption) | ((with_reducible refine Below.setCell ?_ ?_ _); rotate_left; · (first | exact Nat.le_refl _ | (simp; done) | (simp; omega) | omega)) | ((with_reducible refine Below.alloc ?_ ?_ _); rotate_left; · (first | exact Nat.le_refl _ | (simp; done) | (simp; omega) | omega)) | (with_reducible apply Below.drew) | (with_reducible apply below_drewN') | (refine Below.trans ?_ (Below.mono (by assumption) (by first | exact Nat.le_refl _ | (simp; done) | (simp; omega) | omega))) | exact Below.refl _ _ | assumption)) (by repeat (first | (with_reducible exact Below.refl _ _) | (with_reducible assumption) | ((with_reducible refine Below.setCell ?_ ?_ _); rotate_left; · (first | exact Nat.le_refl _ | (simp; done) | (simp; omega) | omega)) | ((with_reducible refine Below.alloc ?_ ?_ _); rotate_left; · (first | exact Nat.le_refl _ | (simp; done) | (simp; omega) | omega)) | (with_reducible apply Below.drew) | (with_reducible apply below_drewN') | (refine Below.trans ?_ (Below.mono (by assumption) (by first | exact Nat.le_refl _ | (simp; done) | (simp; omega) | omega))) | exact Below.refl _ _ | assumption))
        case ca7R3 => (first | (simp [Act.put]; done) | (simp [Act.put, *]; done))
        try dsimp only
        refine wpW_det (t' := ?ct8R3) 8 (by rfl) (by kernel_rfl) (NQ_free _) (by kernel_rfl) ?cw8R3 ?ch8R3 ?ca8R3 (Eq.refl _) ?cH8R3
        case cw8R3 => (go_simp; done)
        case ch8R3 =>
          intro ds w' hS K hK
          have hc := (bcell hS).1
          have hf := (bcell hS).2
          have hz := hS.size
          try simp at hz
          go_simp
          try go_bits
          first
            | exact hK _ hS (Gr.refl _)
            | exact hK _ (by repeat (first | (with_reducible exact Below.refl _ _) | (with_reducible assumption) | ((with_reducible refine Below.setCell ?_ ?_ _); rotate_left; · (first | exact Nat.le_refl _ | (simp; done) | (simp; omega) | omega)) | ((with_reducible refine Below.alloc ?_ ?_ _); rotate_left; · (first | exact Nat.le_refl _ | (simp; done) | (simp; omega) | omega)) | (with_reducible apply Below.drew) | (with_reducible apply below_drewN') | (refine Below.trans ?_ (Below.mono (by assumption) (by first | exact Nat.le_refl _ | (simp; done) | (simp; omega) | omega))) | exact Below.refl _ _ | assumption)) (by repeat (first | (with_reducible exact Below.refl _ _) | (with_reducible assumption) | ((with_reducible refine Below.setCell ?_ ?_ _); rotate_left; · (first | exact Nat.le_refl _ | (simp; done) | (simp; omega) | omega)) | ((with_reducible refine Below.alloc ?_ ?_ _); rotate_left; · (first | exact Nat.le_refl _ | (simp; done) | (simp; omega) | omega)) | (with_reducible apply Below.drew) | (with_reducible apply below_drewN') | (refine Below.trans ?_ (Below.mono (by assumption) (by first | exact Nat.le_refl _ | (simp; done) | (simp; omega) | omega))) | exact Below.refl _ _ | assumption))
        case ca8R3 => (first | (simp [Act.put]; done) | (simp [Act.put, *]; done))
        try dsimp only
        refine wpW_branch [9] (by kernel_rfl) (by simp) ?_
        intro w3 hg3 hS3
        try have s := Blk.gr s hg3
        try have hj6 := hj6.below hg3 hj6.base
        try (have zz := blk2 s; obtain ⟨z0, z1, zf⟩ := zz)
        try have lz := s.lt
        refine each_cons ?_ (each_nil)
        · refine wpOp_go (by rfl) (Eq.refl _) (by go_simp; done) ?_
          intro K hK
          go_simp
          try simp only [Act.put]
          have s := Blk.new w3 55 #[.int .i64 0, .int .i64 0]
          have hzp := Below.size hS3
          try have hj6 := hj6.below ((Below.refl w3.heap.size w3).alloc (Nat.le_refl _) (.cells #[.int .i64 0, .int .i64 0] 55 (0, 0))) hj6.base
          refine hK _ _ (Below.alloc hS3 (Below.size hS3) _) ?_
          clear hK K
          refine wpW_branch [10] (by kernel_rfl) (by simp) ?_
          intro w4 hg4 hS4
          try have s := Blk.gr s hg4
          try have hj6 := hj6.below hg4 hj6.base
          try (have zz := blk2 s; obtain ⟨z0, z1, zf⟩ := zz)
          try have lz := s.lt
          refine each_cons ?_ (each_nil)
          · refine wpOp_go (by rfl) (Eq.refl _) (by go_simp; done) ?_
            intro K hK
            go_simp
            try simp only [Act.put]
            have s := (s.set_ 0 (.int .i64 r.x)).set_ 1 (.int .i64 r.z)
            refine hK _ _ (Below.set2 hS4 hzp) ?_
            clear hK K z0 z1 zf
            refine wpW_det (t' := ?ct11R4) 11 (by rfl) (by kernel_rfl) (NQ_free _) (by kernel_rfl) ?cw11R4 ?ch11R4 ?ca11R4 (Eq.refl _) ?cH11R4
            case cw11R4 => (go_simp; done)
            case ch11R4 =>
              intro ds w' hS K hK
              have hc := (bcell hS).1
              have hf := (bcell hS).2
              have hz := hS.size
              try simp at hz
              go_simp
              try go_bits
              first
                | exact hK _ hS (Gr.refl _)
                | exact hK _ (by repeat (first | (with_reducible exact Below.refl _ _) | (with_reducible assumption) | ((with_reducible refine Below.setCell ?_ ?_ _); rotate_left; · (first | exact Nat.le_refl _ | (simp; done) | (simp; omega) | omega)) | ((with_reducible refine Below.alloc ?_ ?_ _); rotate_left; · (first | exact Nat.le_refl _ | (simp; done) | (simp; omega) | omega)) | (with_reducible apply Below.drew) | (with_reducible apply below_drewN') | (refine Below.trans ?_ (Below.mono (by assumption) (by first | exact Nat.le_refl _ | (simp; done) | (simp; omega) | omega))) | exact Below.refl _ _ | assumption)) (by repeat (first | (with_reducible exact Below.refl _ _) | (with_reducible assumption) | ((with_reducible refine Below.setCell ?_ ?_ _); rotate_left; · (first | exact Nat.le_refl _ | (simp; done) | (simp; omega) | omega)) | ((with_reducible refine Below.alloc ?_ ?_ _); rotate_left; · (first | exact Nat.le_refl _ | (simp; done) | (simp; omega) | omega)) | (with_reducible apply Below.drew) | (with_reducible apply below_drewN') | (refine Below.trans ?_ (Below.mono (by assumption) (by first | exact Nat.le_refl _ | (simp; done) | (simp; omega) | omega))) | exact Below.refl _ _ | assumption))
            case ca11R4 => (first | (simp [Act.put]; done) | (simp [Act.put, *]; done))
            try dsimp only
            refine wpW_end (by kernel_rfl) ?_
            intro wE hg hS
            unfold NQ
            dsimp only
            have s := Blk.gr s hg
            go_wp2_with fail
            go_meet
            exact ⟨_, rfl, rfl, s, hBB.trans (Below.mono hS (Below.size hBB)), hS⟩
      · refine wpOp_go (by rfl) (Eq.refl _) (by go_simp; done) ?_
        intro K hK
        go_simp
        try simp only [Act.put]
        have s := Blk.new w2 55 #[.int .i64 0, .int .i64 0]
        have hzp := Below.size hS2
        try have hj6 := hj6.below ((Below.refl w2.heap.size w2).alloc (Nat.le_refl _) (.cells #[.int .i64 0, .int .i64 0] 55 (0, 0))) hj6.base
        refine hK _ _ (Below.alloc hS2 (Below.size hS2) _) ?_
        clear hK K
        refine wpW_branch [5] (by kernel_rfl) (by simp) ?_
        intro w3 hg3 hS3
        try have s := Blk.gr s hg3
        try have hj6 := hj6.below hg3 hj6.base
        try (have zz := blk2 s; obtain ⟨z0, z1, zf⟩ := zz)
        try have lz := s.lt
        refine each_cons ?_ (each_nil)
        · refine wpOp_go (by rfl) (Eq.refl _) (by go_simp; done) ?_
          intro K hK
          go_simp
          try simp only [Act.put]
          refine (spotAt_any j p2 p0 p1 A6 c6 w6.heap.size _ hj6 h0 h1).mono ?_
          rw [HP.out]
          unfold srC
          rintro e w8 ⟨rfl, hB8⟩
          try have s := Blk.gr s hB8
          refine hK _ _ (Below.trans hS3 (hB8.mono (Below.size hS3))) ?_
          clear hK K
          refine wpW_det (t' := ?ct6R5) 6 (by rfl) (by kernel_rfl) (NQ_free _) (by kernel_rfl) ?cw6R5 ?ch6R5 ?ca6R5 (Eq.refl _) ?cH6R5
          case cw6R5 => (go_simp; done)
          case ch6R5 =>
            intro ds w' hS K hK
            have hc := (bcell hS).1
            have hf := (bcell hS).2
            have hz := hS.size
            try simp at hz
            go_simp
            try go_bits
            first
              | exact hK _ hS (Gr.refl _)
              | exact hK _ (by repeat (first | (with_reducible exact Below.refl _ _) | (with_reducible assumption) | ((with_reducible refine Below.setCell ?_ ?_ _); rotate_left; · (first | exact Nat.le_refl _ | (simp; done) | (simp; omega) | omega)) | ((with_reducible refine Below.alloc ?_ ?_ _); rotate_left; · (first | exact Nat.le_refl _ | (simp; done) | (simp; omega) | omega)) | (with_reducible apply Below.drew) | (with_reducible apply below_drewN') | (refine Below.trans ?_ (Below.mono (by assumption) (by first | exact Nat.le_refl _ | (simp; done) | (simp; omega) | omega))) | exact Below.refl _ _ | assumption)) (by repeat (first | (with_reducible exact Below.refl _ _) | (with_reducible assumption) | ((with_reducible refine Below.setCell ?_ ?_ _); rotate_left; · (first | exact Nat.le_refl _ | (simp; done) | (simp; omega) | omega)) | ((with_reducible refine Below.alloc ?_ ?_ _); rotate_left; · (first | exact Nat.le_refl _ | (simp; done) | (simp; omega) | omega)) | (with_reducible apply Below.drew) | (with_reducible apply below_drewN') | (refine Below.trans ?_ (Below.mono (by assumption) (by first | exact Nat.le_refl _ | (simp; done) | (simp; omega) | omega))) | exact Below.refl _ _ | assumption))
          case ca6R5 => (first | (simp [Act.put]; done) | (simp [Act.put, *]; done))
          try dsimp only
          refine wpW_det (t' := ?ct7R5) 7 (by rfl) (by kernel_rfl) (NQ_free _) (by kernel_rfl) ?cw7R5 ?ch7R5 ?ca7R5 (Eq.refl _) ?cH7R5
          case cw7R5 => (go_simp; done)
          case ch7R5 =>
            intro ds w' hS K hK
            have hc := (bcell hS).1
            have hf := (bcell hS).2
            have hz := hS.size
            try simp at hz
            go_simp
            try go_bits
            first
              | exact hK _ hS (Gr.refl _)
              | exact hK _ (by repeat (first | (with_reducible exact Below.refl _ _) | (with_reducible assumption) | ((with_reducible refine Below.setCell ?_ ?_ _); rotate_left; · (first | exact Nat.le_refl _ | (simp; done) | (simp; omega) | omega)) | ((with_reducible refine Below.alloc ?_ ?_ _); rotate_left; · (first | exact Nat.le_refl _ | (simp; done) | (simp; omega) | omega)) | (with_reducible apply Below.drew) | (with_reducible apply below_drewN') | (refine Below.trans ?_ (Below.mono (by assumption) (by first | exact Nat.le_refl _ | (simp; done) | (simp; omega) | omega))) | exact Below.refl _ _ | assumption)) (by repeat (first | (with_reducible exact Below.refl _ _) | (with_reducible assumption) | ((with_reducible refine Below.setCell ?_ ?_ _); rotate_left; · (first | exact Nat.le_refl _ | (simp; done) | (simp; omega) | omega)) | ((with_reducible refine Below.alloc ?_ ?_ _); rotate_left; · (first | exact Nat.le_refl _ | (simp; done) | (simp; omega) | omega)) | (with_reducible apply Below.drew) | (with_reducible apply below_drewN') | (refine Below.trans ?_ (Below.mono (by assumption) (by first | exact Nat.le_refl _ | (simp; done) | (simp; omega) | omega))) | exact Below.refl _ _ | assumption))
          case ca7R5 => (first | (simp [Act.put]; done) | (simp [Act.put, *]; done))
          try dsimp only
          refine wpW_det (t' := ?ct8R5) 8 (by rfl) (by kernel_rfl) (NQ_free _) (by kernel_rfl) ?cw8R5 ?ch8R5 ?ca8R5 (Eq.refl _) ?cH8R5
          case cw8R5 => (go_simp; done)
          case ch8R5 =>
            intro ds w' hS K hK
            have hc := (bcell hS).1
            have hf := (bcell hS).2
            have hz := hS.size
            try simp at hz
            go_simp
            try go_bits
            first
              | exact hK _ hS (Gr.refl _)
              | exact hK _ (by repeat (first | (with_reducible exact Below.refl _ _) | (with_reducible assumption) | ((with_reducible refine Below.setCell ?_ ?_ _); rotate_left; · (first | exact Nat.le_refl _ | (simp; done) | (simp; omega) | omega)) | ((with_reducible refine Below.alloc ?_ ?_ _); rotate_left; · (first | exact Nat.le_refl _ | (simp; done) | (simp; omega) | omega)) | (with_reducible apply Below.drew) | (with_reducible apply below_drewN') | (refine Below.trans ?_ (Below.mono (by assumption) (by first | exact Nat.le_refl _ | (simp; done) | (simp; omega) | omega))) | exact Below.refl _ _ | assumption)) (by repeat (first | (with_reducible exact Below.refl _ _) | (with_reducible assumption) | ((with_reducible refine Below.setCell ?_ ?_ _); rotate_left; · (first | exact Nat.le_refl _ | (simp; done) | (simp; omega) | omega)) | ((with_reducible refine Below.alloc ?_ ?_ _); rotate_left; · (first | exact Nat.le_refl _ | (simp; done) | (simp; omega) | omega)) | (with_reducible apply Below.drew) | (with_reducible apply below_drewN') | (refine Below.trans ?_ (Below.mono (by assumption) (by first | exact Nat.le_refl _ | (simp; done) | (simp; omega) | omega))) | exact Below.refl _ _ | assumption))
          case ca8R5 => (first | (simp [Act.put]; done) | (simp [Act.put, *]; done))
          try dsimp only
          refine wpW_branch [10] (by kernel_rfl) (by simp) ?_
          intro w4 hg4 hS4
          try have s := Blk.gr s hg4
          try have hj6 := hj6.below hg4 hj6.base
          try (have zz := blk2 s; obtain ⟨z0, z1, zf⟩ := zz)
          try have lz := s.lt
          refine each_cons ?_ (each_nil)
          · refine wpOp_go (by rfl) (Eq.refl _) (by go_simp; done) ?_
            intro K hK
            go_simp
            try simp only [Act.put]
            have s := (s.set_ 0 (.int .i64 r.x)).set_ 1 (.int .i64 r.z)
            refine hK _ _ (Below.set2 hS4 hzp) ?_
            clear hK K z0 z1 zf
            refine wpW_det (t' := ?ct11R6) 11 (by rfl) (by kernel_rfl) (NQ_free _) (by kernel_rfl) ?cw11R6 ?ch11R6 ?ca11R6 (Eq.refl _) ?cH11R6
            case cw11R6 => (go_simp; done)
            case ch11R6 =>
              intro ds w' hS K hK
              have hc := (bcell hS).1
              have hf := (bcell hS).2
              have hz := hS.size
              try simp at hz
              go_simp
              try go_bits
              first
                | exact hK _ hS (Gr.refl _)
                | exact hK _ (by repeat (first | (with_reducible exact Below.refl _ _) | (with_reducible assumption) | ((with_reducible refine Below.setCell ?_ ?_ _); rotate_left; · (first | exact Nat.le_refl _ | (simp; done) | (simp; omega) | omega)) | ((with_reducible refine Below.alloc ?_ ?_ _); rotate_left; · (first | exact Nat.le_refl _ | (simp; done) | (simp; omega) | omega)) | (with_reducible apply Below.drew) | (with_reducible apply below_drewN') | (refine Below.trans ?_ (Below.mono (by assumption) (by first | exact Nat.le_refl _ | (simp; done) | (simp; omega) | omega))) | exact Below.refl _ _ | assumption)) (by repeat (first | (with_reducible exact Below.refl _ _) | (with_reducible assumption) | ((with_reducible refine Below.setCell ?_ ?_ _); rotate_left; · (first | exact Nat.le_refl _ | (simp; done) | (simp; omega) | omega)) | ((with_reducible refine Below.alloc ?_ ?_ _); rotate_left; · (first | exact Nat.le_refl _ | (simp; done) | (simp; omega) | omega)) | (with_reducible apply Below.drew) | (with_reducible apply below_drewN') | (refine Below.trans ?_ (Below.mono (by assumption) (by first | exact Nat.le_refl _ | (simp; done) | (simp; omega) | omega))) | exact Below.refl _ _ | assumption))
            case ca11R6 => (first | (simp [Act.put]; done) | (simp [Act.put, *]; done))
            try dsimp only
            refine wpW_end (by kernel_rfl) ?_
            intro wE hg hS
            unfold NQ
            dsimp only
            have s := Blk.gr s hg
            go_wp2_with fail
            go_meet
            exact ⟨_, rfl, rfl, s, hBB.trans (Below.mono hS (Below.size hBB)), hS⟩
    · refine wpOp_go (by rfl) (Eq.refl _) (by go_simp; done) ?_
      intro K hK
      go_simp
      try simp only [Act.put]
      have s := Blk.new w1 55 #[.int .i64 0, .int .i64 0]
      have hzp := Below.size hS1
      try have hj6 := hj6.below ((Below.refl w1.heap.size w1).alloc (Nat.le_refl _) (.cells #[.int .i64 0, .int .i64 0] 55 (0, 0))) hj6.base
      refine hK _ _ (Below.alloc hS1 (Below.size hS1) _) ?_
      clear hK K
      refine wpW_branch [1] (by kernel_rfl) (by simp) ?_
      intro w2 hg2 hS2
      try have s := Blk.gr s hg2
      try have hj6 := hj6.below hg2 hj6.base
      try (have zz := blk2 s; obtain ⟨z0, z1, zf⟩ := zz)
      try have lz := s.lt
      refine each_cons ?_ (each_nil)
      · refine wpOp_go (by rfl) (Eq.refl _) (by go_simp; done) ?_
        intro K hK
        go_simp
        try simp only [Act.put]
        have hj5 := HJ.out _ (hBB.trans (Below.mono hS2 (Below.size hBB)))
        refine (copyJoint_any j A c B _ hj5 HA.out (by omega)).mono ?_
        rintro e w6 ⟨v, rfl, own6, hB6⟩
        obtain ⟨A6, c6, rfl, hj6, hA6⟩ := copied hj5 own6
        try have s := Blk.gr s hB6
        refine hK _ _ (Below.trans hS2 (hB6.mono (Below.size hS2))) ?_
        clear hK K own6 hj5
        refine wpW_branch [5] (by kernel_rfl) (by simp) ?_
        intro w3 hg3 hS3
        try have s := Blk.gr s hg3
        try have hj6 := hj6.below hg3 hj6.base
        try (have zz := blk2 s; obtain ⟨z0, z1, zf⟩ := zz)
        try have lz := s.lt
        refine each_cons ?_ (each_nil)
        · refine wpOp_go (by rfl) (Eq.refl _) (by go_simp; done) ?_
          intro K hK
          go_simp
          try simp only [Act.put]
          refine (spotAt_any j p2 p0 p1 A6 c6 w6.heap.size _ hj6 h0 h1).mono ?_
          rw [HP.out]
          unfold srC
          rintro e w8 ⟨rfl, hB8⟩
          try have s := Blk.gr s hB8
          refine hK _ _ (Below.trans hS3 (hB8.mono (Below.size hS3))) ?_
          clear hK K
          refine wpW_det (t' := ?ct6R7) 6 (by rfl) (by kernel_rfl) (NQ_free _) (by kernel_rfl) ?cw6R7 ?ch6R7 ?ca6R7 (Eq.refl _) ?cH6R7
          case cw6R7 => (go_simp; done)
          case ch6R7 =>
            intro ds w' hS K hK
            have hc := (bcell hS).1
            have hf := (bcell hS).2
            have hz := hS.size
            try simp at hz
            go_simp
            try go_bits
            first
              | exact hK _ hS (Gr.refl _)
              | exact hK _ (by repeat (first | (with_reducible exact Below.refl _ _) | (with_reducible assumption) | ((with_reducible refine Below.setCell ?_ ?_ _); rotate_left; · (first | exact Nat.le_refl _ | (simp; done) | (simp; omega) | omega)) | ((with_reducible refine Below.alloc ?_ ?_ _); rotate_left; · (first | exact Nat.le_refl _ | (simp; done) | (simp; omega) | omega)) | (with_reducible apply Below.drew) | (with_reducible apply below_drewN') | (refine Below.trans ?_ (Below.mono (by assumption) (by first | exact Nat.le_refl _ | (simp; done) | (simp; omega) | omega))) | exact Below.refl _ _ | assumption)) (by repeat (first | (with_reducible exact Below.refl _ _) | (with_reducible assumption) | ((with_reducible refine Below.setCell ?_ ?_ _); rotate_left; · (first | exact Nat.le_refl _ | (simp; done) | (simp; omega) | omega)) | ((with_reducible refine Below.alloc ?_ ?_ _); rotate_left; · (first | exact Nat.le_refl _ | (simp; done) | (simp; omega) | omega)) | (with_reducible apply Below.drew) | (with_reducible apply below_drewN') | (refine Below.trans ?_ (Below.mono (by assumption) (by first | exact Nat.le_refl _ | (simp; done) | (simp; omega) | omega))) | exact Below.refl _ _ | assumption))
          case ca6R7 => (first | (simp [Act.put]; done) | (simp [Act.put, *]; done))
          try dsimp only
          refine wpW_det (t' := ?ct7R7) 7 (by rfl) (by kernel_rfl) (NQ_free _) (by kernel_rfl) ?cw7R7 ?ch7R7 ?ca7R7 (Eq.refl _) ?cH7R7
          case cw7R7 => (go_simp; done)
          case ch7R7 =>
            intro ds w' hS K hK
            have hc := (bcell hS).1
            have hf := (bcell hS).2
            have hz := hS.size
            try simp at hz
            go_simp
            try go_bits
            first
              | exact hK _ hS (Gr.refl _)
              | exact hK _ (by repeat (first | (with_reducible exact Below.refl _ _) | (with_reducible assumption) | ((with_reducible refine Below.setCell ?_ ?_ _); rotate_left; · (first | exact Nat.le_refl _ | (simp; done) | (simp; omega) | omega)) | ((with_reducible refine Below.alloc ?_ ?_ _); rotate_left; · (first | exact Nat.le_refl _ | (simp; done) | (simp; omega) | omega)) | (with_reducible apply Below.drew) | (with_reducible apply below_drewN') | (refine Below.trans ?_ (Below.mono (by assumption) (by first | exact Nat.le_refl _ | (simp; done) | (simp; omega) | omega))) | exact Below.refl _ _ | assumption)) (by repeat (first | (with_reducible exact Below.refl _ _) | (with_reducible assumption) | ((with_reducible refine Below.setCell ?_ ?_ _); rotate_left; · (first | exact Nat.le_refl _ | (simp; done) | (simp; omega) | omega)) | ((with_reducible refine Below.alloc ?_ ?_ _); rotate_left; · (first | exact Nat.le_refl _ | (simp; done) | (simp; omega) | omega)) | (with_reducible apply Below.drew) | (with_reducible apply below_drewN') | (refine Below.trans ?_ (Below.mono (by assumption) (by first | exact Nat.le_refl _ | (simp; done) | (simp; omega) | omega))) | exact Below.refl _ _ | assumption))
          case ca7R7 => (first | (simp [Act.put]; done) | (simp [Act.put, *]; done))
          try dsimp only
          refine wpW_det (t' := ?ct8R7) 8 (by rfl) (by kernel_rfl) (NQ_free _) (by kernel_rfl) ?cw8R7 ?ch8R7 ?ca8R7 (Eq.refl _) ?cH8R7
          case cw8R7 => (go_simp; done)
          case ch8R7 =>
            intro ds w' hS K hK
            have hc := (bcell hS).1
            have hf := (bcell hS).2
            have hz := hS.size
            try simp at hz
            go_simp
            try go_bits
            first
              | exact hK _ hS (Gr.refl _)
              | exact hK _ (by repeat (first | (with_reducible exact Below.refl _ _) | (with_reducible assumption) | ((with_reducible refine Below.setCell ?_ ?_ _); rotate_left; · (first | exact Nat.le_refl _ | (simp; done) | (simp; omega) | omega)) | ((with_reducible refine Below.alloc ?_ ?_ _); rotate_left; · (first | exact Nat.le_refl _ | (simp; done) | (simp; omega) | omega)) | (with_reducible apply Below.drew) | (with_reducible apply below_drewN') | (refine Below.trans ?_ (Below.mono (by assumption) (by first | exact Nat.le_refl _ | (simp; done) | (simp; omega) | omega))) | exact Below.refl _ _ | assumption)) (by repeat (first | (with_reducible exact Below.refl _ _) | (with_reducible assumption) | ((with_reducible refine Below.setCell ?_ ?_ _); rotate_left; · (first | exact Nat.le_refl _ | (simp; done) | (simp; omega) | omega)) | ((with_reducible refine Below.alloc ?_ ?_ _); rotate_left; · (first | exact Nat.le_refl _ | (simp; done) | (simp; omega) | omega)) | (with_reducible apply Below.drew) | (with_reducible apply below_drewN') | (refine Below.trans ?_ (Below.mono (by assumption) (by first | exact Nat.le_refl _ | (simp; done) | (simp; omega) | omega))) | exact Below.refl _ _ | assumption))
          case ca8R7 => (first | (simp [Act.put]; done) | (simp [Act.put, *]; done))
          try dsimp only
          refine wpW_branch [10] (by kernel_rfl) (by simp) ?_
          intro w4 hg4 hS4
          try have s := Blk.gr s hg4
          try have hj6 := hj6.below hg4 hj6.base
          try (have zz := blk2 s; obtain ⟨z0, z1, zf⟩ := zz)
          try have lz := s.lt
          refine each_cons ?_ (each_nil)
          · refine wpOp_go (by rfl) (Eq.refl _) (by go_simp; done) ?_
            intro K hK
            go_simp
            try simp only [Act.put]
            have s := (s.set_ 0 (.int .i64 r.x)).set_ 1 (.int .i64 r.z)
            refine hK _ _ (Below.set2 hS4 hzp) ?_
            clear hK K z0 z1 zf
            refine wpW_det (t' := ?ct11R8) 11 (by rfl) (by kernel_rfl) (NQ_free _) (by kernel_rfl) ?cw11R8 ?ch11R8 ?ca11R8 (Eq.refl _) ?cH11R8
            case cw11R8 => (go_simp; done)
            case ch11R8 =>
              intro ds w' hS K hK
              have hc := (bcell hS).1
              have hf := (bcell hS).2
              have hz := hS.size
              try simp at hz
              go_simp
              try go_bits
              first
                | exact hK _ hS (Gr.refl _)
                | exact hK _ (by repeat (first | (with_reducible exact Below.refl _ _) | (with_reducible assumption) | ((with_reducible refine Below.setCell ?_ ?_ _); rotate_left; · (first | exact Nat.le_refl _ | (simp; done) | (simp; omega) | omega)) | ((with_reducible refine Below.alloc ?_ ?_ _); rotate_left; · (first | exact Nat.le_refl _ | (simp; done) | (simp; omega) | omega)) | (with_reducible apply Below.drew) | (with_reducible apply below_drewN') | (refine Below.trans ?_ (Below.mono (by assumption) (by first | exact Nat.le_refl _ | (simp; done) | (simp; omega) | omega))) | exact Below.refl _ _ | assumption)) (by repeat (first | (with_reducible exact Below.refl _ _) | (with_reducible assumption) | ((with_reducible refine Below.setCell ?_ ?_ _); rotate_left; · (first | exact Nat.le_refl _ | (simp; done) | (simp; omega) | omega)) | ((with_reducible refine Below.alloc ?_ ?_ _); rotate_left; · (first | exact Nat.le_refl _ | (simp; done) | (simp; omega) | omega)) | (with_reducible apply Below.drew) | (with_reducible apply below_drewN') | (refine Below.trans ?_ (Below.mono (by assumption) (by first | exact Nat.le_refl _ | (simp; done) | (simp; omega) | omega))) | exact Below.refl _ _ | assumption))
            case ca11R8 => (first | (simp [Act.put]; done) | (simp [Act.put, *]; done))
            try dsimp only
            refine wpW_end (by kernel_rfl) ?_
            intro wE hg hS
            unfold NQ
            dsimp only
            have s := Blk.gr s hg
            go_wp2_with fail
            go_meet
            exact ⟨_, rfl, rfl, s, hBB.trans (Below.mono hS (Below.size hBB)), hS⟩
  case rest =>
  obtain ⟨ps, rfl, rfl, s, hBc, hBd⟩ := hcut
  replace b := b.gr hBd
  replace y := y.gr hBd
  replace o := o.gr hBd
  clear hBB hBd
  have hBB := hBc
  clear hBc
  have l_b := b.lt
  have l_y := y.lt
  have l_o := o.lt
  obtain ⟨t0, t1, t2, t3⟩ := jo_cells b
  obtain ⟨u0, u1, u2, u3⟩ := blk3p y
  obtain ⟨v0, v1, _⟩ := blk2 o
  have l_s := s.lt
  obtain ⟨s0, s1, _⟩ := blk2 s
  go_wp2_with fail
  refine wp_region_w (Gr _) (by kernel_rfl) (Below.refl _ _).drew ?_
  refine wpW_det (t' := ?ct0R9) 0 (by rfl) (by kernel_rfl) (NQ_free _) (by kernel_rfl) ?cw0R9 ?ch0R9 ?ca0R9 (Eq.refl _) ?cH0R9
  case cw0R9 => (go_simp; done)
  case ch0R9 =>
    intro ds w' hS K hK
    have hc := (bcell hS).1
    have hf := (bcell hS).2
    have hz := hS.size
    try simp at hz
    go_simp
    try go_bits
    first
      | exact hK _ hS (Gr.refl _)
      | exact hK _ (by repeat (first | (with_reducible exact Below.refl _ _) | (with_reducible assumption) | ((with_reducible refine Below.setCell ?_ ?_ _); rotate_left; · (first | exact Nat.le_refl _ | (simp; done) | (simp; omega) | omega)) | ((with_reducible refine Below.alloc ?_ ?_ _); rotate_left; · (first | exact Nat.le_refl _ | (simp; done) | (simp; omega) | omega)) | (with_reducible apply Below.drew) | (with_reducible apply below_drewN') | (refine Below.trans ?_ (Below.mono (by assumption) (by first | exact Nat.le_refl _ | (simp; done) | (simp; omega) | omega))) | exact Below.refl _ _ | assumption)) (by repeat (first | (with_reducible exact Below.refl _ _) | (with_reducible assumption) | ((with_reducible refine Below.setCell ?_ ?_ _); rotate_left; · (first | exact Nat.le_refl _ | (simp; done) | (simp; omega) | omega)) | ((with_reducible refine Below.alloc ?_ ?_ _); rotate_left; · (first | exact Nat.le_refl _ | (simp; done) | (simp; omega) | omega)) | (with_reducible apply Below.drew) | (with_reducible apply below_drewN') | (refine Below.trans ?_ (Below.mono (by assumption) (by first | exact Nat.le_refl _ | (simp; done) | (simp; omega) | omega))) | exact Below.refl _ _ | assumption))
  case ca0R9 => (first | (simp [Act.put]; done) | (simp [Act.put, *]; done))
  try dsimp only
  refine wpW_det (t' := ?ct2R9) 2 (by rfl) (by kernel_rfl) (NQ_free _) (by kernel_rfl) ?cw2R9 ?ch2R9 ?ca2R9 (Eq.refl _) ?cH2R9
  case cw2R9 => (go_simp; done)
  case ch2R9 =>
    intro ds w' hS K hK
    have hc := (bcell hS).1
    have hf := (bcell hS).2
    have hz := hS.size
    try simp at hz
    go_simp
    try go_bits
    first
      | exact hK _ hS (Gr.refl _)
      | exact hK _ (by repeat (first | (with_reducible exact Below.refl _ _) | (with_reducible assumption) | ((with_reducible refine Below.setCell ?_ ?_ _); rotate_left; · (first | exact Nat.le_refl _ | (simp; done) | (simp; omega) | omega)) | ((with_reducible refine Below.alloc ?_ ?_ _); rotate_left; · (first | exact Nat.le_refl _ | (simp; done) | (simp; omega) | omega)) | (with_reducible apply Below.drew) | (with_reducible apply below_drewN') | (refine Below.trans ?_ (Below.mono (by assumption) (by first | exact Nat.le_refl _ | (simp; done) | (simp; omega) | omega))) | exact Below.refl _ _ | assumption)) (by repeat (first | (with_reducible exact Below.refl _ _) | (with_reducible assumption) | ((with_reducible refine Below.setCell ?_ ?_ _); rotate_left; · (first | exact Nat.le_refl _ | (simp; done) | (simp; omega) | omega)) | ((with_reducible refine Below.alloc ?_ ?_ _); rotate_left; · (first | exact Nat.le_refl _ | (simp; done) | (simp; omega) | omega)) | (with_reducible apply Below.drew) | (with_reducible apply below_drewN') | (refine Below.trans ?_ (Below.mono (by assumption) (by first | exact Nat.le_refl _ | (simp; done) | (simp; omega) | omega))) | exact Below.refl _ _ | assumption))
  case ca2R9 => (first | (simp [Act.put]; done) | (simp [Act.put, *]; done))
  try dsimp only
  refine wpW_branch [1] (by kernel_rfl) (by simp) ?_
  intro wr4 hg_wr4 hS_wr4
  refine each_cons ?_ each_nil
  refine wpOp_go (by rfl) (Eq.refl _) (by go_simp; done) ?_
  intro K hK
  go_simp
  try simp only [Act.put]
  have b' := b.gr hS_wr4
  have y' := y.gr hS_wr4
  have o' := o.gr hS_wr4
  have s' := s.gr hS_wr4
  refine (copyJoint_any j A c B _ (HJ.out _ (hBB.trans (Below.mono hS_wr4 (Below.size hBB)))) HA.out (by omega)).mono ?_
  rintro e ws4 ⟨v, rfl, own6, hBs4⟩
  obtain ⟨A6, c6, rfl, hj6, hA6⟩ := copied (HJ.out _ (hBB.trans (Below.mono hS_wr4 (Below.size hBB)))) own6
  clear own6 hA6
  refine hK _ _ (Below.trans hS_wr4 (hBs4.mono (Below.size hS_wr4))) ?_
  clear hK K hBs4 hS_wr4 hg_wr4 b' y' o' s'
  refine wpW_branch [3] (by kernel_rfl) (by simp) ?_
  intro wr5 hg_wr5 hS_wr5
  refine each_cons ?_ each_nil
  refine wpOp_go (by rfl) (Eq.refl _) (by go_simp; done) ?_
  intro K hK
  go_simp
  try simp only [Act.put]
  have b' := b.gr hS_wr5
  have y' := y.gr hS_wr5
  have o' := o.gr hS_wr5
  have s' := s.gr hS_wr5
  replace hj6 := hj6.below hg_wr5 hj6.base
  refine (inZone_any j x z A6 c6 _ _ hj6 hx hz).mono ?_
  rw [HQ.out]
  rintro e ws5 ⟨rfl, hBs5⟩
  replace hj6 := hj6.below hBs5 hj6.base
  refine hK _ _ (Below.trans hS_wr5 (hBs5.mono (Below.size hS_wr5))) ?_
  clear hK K hBs5 hS_wr5 hg_wr5 b' y' o' s'
  refine wpW_det (t' := ?ct4R10) 4 (by rfl) (by kernel_rfl) (NQ_free _) (by kernel_rfl) ?cw4R10 ?ch4R10 ?ca4R10 (Eq.refl _) ?cH4R10
  case cw4R10 => (go_simp; done)
  case ch4R10 =>
    intro ds w' hS K hK
    have hc := (bcell hS).1
    have hf := (bcell hS).2
    have hz := hS.size
    try simp at hz
    go_simp
    try go_bits
    first
      | exact hK _ hS (Gr.refl _)
      | exact hK _ (by repeat (first | (with_reducible exact Below.refl _ _) | (with_reducible assumption) | ((with_reducible refine Below.setCell ?_ ?_ _); rotate_left; · (first | exact Nat.le_refl _ | (simp; done) | (simp; omega) | omega)) | ((with_reducible refine Below.alloc ?_ ?_ _); rotate_left; · (first | exact Nat.le_refl _ | (simp; done) | (simp; omega) | omega)) | (with_reducible apply Below.drew) | (with_reducible apply below_drewN') | (refine Below.trans ?_ (Below.mono (by assumption) (by first | exact Nat.le_refl _ | (simp; done) | (simp; omega) | omega))) | exact Below.refl _ _ | assumption)) (by repeat (first | (with_reducible exact Below.refl _ _) | (with_reducible assumption) | ((with_reducible refine Below.setCell ?_ ?_ _); rotate_left; · (first | exact Nat.le_refl _ | (simp; done) | (simp; omega) | omega)) | ((with_reducible refine Below.alloc ?_ ?_ _); rotate_left; · (first | exact Nat.le_refl _ | (simp; done) | (simp; omega) | omega)) | (with_reducible apply Below.drew) | (with_reducible apply below_drewN') | (refine Below.trans ?_ (Below.mono (by assumption) (by first | exact Nat.le_refl _ | (simp; done) | (simp; omega) | omega))) | exact Below.refl _ _ | assumption))
  case ca4R10 => (first | (simp [Act.put]; done) | (simp [Act.put, *]; done))
  try dsimp only
  refine wpW_det (t' := ?ct5R10) 5 (by rfl) (by kernel_rfl) (NQ_free _) (by kernel_rfl) ?cw5R10 ?ch5R10 ?ca5R10 (Eq.refl _) ?cH5R10
  case cw5R10 => (go_simp; done)
  case ch5R10 =>
    intro ds w' hS K hK
    have hc := (bcell hS).1
    have hf := (bcell hS).2
    have hz := hS.size
    try simp at hz
    go_simp
    try go_bits
    first
      | exact hK _ hS (Gr.refl _)
      | exact hK _ (by repeat (first | (with_reducible exact Below.refl _ _) | (with_reducible assumption) | ((with_reducible refine Below.setCell ?_ ?_ _); rotate_left; · (first | exact Nat.le_refl _ | (simp; done) | (simp; omega) | omega)) | ((with_reducible refine Below.alloc ?_ ?_ _); rotate_left; · (first | exact Nat.le_refl _ | (simp; done) | (simp; omega) | omega)) | (with_reducible apply Below.drew) | (with_reducible apply below_drewN') | (refine Below.trans ?_ (Below.mono (by assumption) (by first | exact Nat.le_refl _ | (simp; done) | (simp; omega) | omega))) | exact Below.refl _ _ | assumption)) (by repeat (first | (with_reducible exact Below.refl _ _) | (with_reducible assumption) | ((with_reducible refine Below.setCell ?_ ?_ _); rotate_left; · (first | exact Nat.le_refl _ | (simp; done) | (simp; omega) | omega)) | ((with_reducible refine Below.alloc ?_ ?_ _); rotate_left; · (first | exact Nat.le_refl _ | (simp; done) | (simp; omega) | omega)) | (with_reducible apply Below.drew) | (with_reducible apply below_drewN') | (refine Below.trans ?_ (Below.mono (by assumption) (by first | exact Nat.le_refl _ | (simp; done) | (simp; omega) | omega))) | exact Below.refl _ _ | assumption))
  case ca5R10 => (first | (simp [Act.put]; done) | (simp [Act.put, *]; done))
  try dsimp only
  refine wpW_det (t' := ?ct6R10) 6 (by rfl) (by kernel_rfl) (NQ_free _) (by kernel_rfl) ?cw6R10 ?ch6R10 ?ca6R10 (Eq.refl _) ?cH6R10
  case cw6R10 => (go_simp; done)
  case ch6R10 =>
    intro ds w' hS K hK
    have hc := (bcell hS).1
    have hf := (bcell hS).2
    have hz := hS.size
    try simp at hz
    go_simp
    try go_bits
    first
      | exact hK _ hS (Gr.refl _)
      | exact hK _ (by repeat (first | (with_reducible exact Below.refl _ _) | (with_reducible assumption) | ((with_reducible refine Below.setCell ?_ ?_ _); rotate_left; · (first | exact Nat.le_refl _ | (simp; done) | (simp; omega) | omega)) | ((with_reducible refine Below.alloc ?_ ?_ _); rotate_left; · (first | exact Nat.le_refl _ | (simp; done) | (simp; omega) | omega)) | (with_reducible apply Below.drew) | (with_reducible apply below_drewN') | (refine Below.trans ?_ (Below.mono (by assumption) (by first | exact Nat.le_refl _ | (simp; done) | (simp; omega) | omega))) | exact Below.refl _ _ | assumption)) (by repeat (first | (with_reducible exact Below.refl _ _) | (with_reducible assumption) | ((with_reducible refine Below.setCell ?_ ?_ _); rotate_left; · (first | exact Nat.le_refl _ | (simp; done) | (simp; omega) | omega)) | ((with_reducible refine Below.alloc ?_ ?_ _); rotate_left; · (first | exact Nat.le_refl _ | (simp; done) | (simp; omega) | omega)) | (with_reducible apply Below.drew) | (with_reducible apply below_drewN') | (refine Below.trans ?_ (Below.mono (by assumption) (by first | exact Nat.le_refl _ | (simp; done) | (simp; omega) | omega))) | exact Below.refl _ _ | assumption))
  case ca6R10 => (first | (simp [Act.put]; done) | (simp [Act.put, *]; done))
  try dsimp only
  refine wpW_det (t' := ?ct7R10) 7 (by rfl) (by kernel_rfl) (NQ_free _) (by kernel_rfl) ?cw7R10 ?ch7R10 ?ca7R10 (Eq.refl _) ?cH7R10
  case cw7R10 => (go_simp; done)
  case ch7R10 =>
    intro ds w' hS K hK
    have hc := (bcell hS).1
    have hf := (bcell hS).2
    have hz := hS.size
    try simp at hz
    go_simp
    try go_bits
    first
      | exact hK _ hS (Gr.refl _)
      | exact hK _ (by repeat (first | (with_reducible exact Below.refl _ _) | (with_reducible assumption) | ((with_reducible refine Below.setCell ?_ ?_ _); rotate_left; · (first | exact Nat.le_refl _ | (simp; done) | (simp; omega) | omega)) | ((with_reducible refine Below.alloc ?_ ?_ _); rotate_left; · (first | exact Nat.le_refl _ | (simp; done) | (simp; omega) | omega)) | (with_reducible apply Below.drew) | (with_reducible apply below_drewN') | (refine Below.trans ?_ (Below.mono (by assumption) (by first | exact Nat.le_refl _ | (simp; done) | (simp; omega) | omega))) | exact Below.refl _ _ | assumption)) (by repeat (first | (with_reducible exact Below.refl _ _) | (with_reducible assumption) | ((with_reducible refine Below.setCell ?_ ?_ _); rotate_left; · (first | exact Nat.le_refl _ | (simp; done) | (simp; omega) | omega)) | ((with_reducible refine Below.alloc ?_ ?_ _); rotate_left; · (first | exact Nat.le_refl _ | (simp; done) | (simp; omega) | omega)) | (with_reducible apply Below.drew) | (with_reducible apply below_drewN') | (refine Below.trans ?_ (Below.mono (by assumption) (by first | exact Nat.le_refl _ | (simp; done) | (simp; omega) | omega))) | exact Below.refl _ _ | assumption))
  case ca7R10 => (first | (simp [Act.put]; done) | (simp [Act.put, *]; done))
  try dsimp only
  refine wpW_det (t' := ?ct8R10) 8 (by rfl) (by kernel_rfl) (NQ_free _) (by kernel_rfl) ?cw8R10 ?ch8R10 ?ca8R10 (Eq.refl _) ?cH8R10
  case cw8R10 => (go_simp; done)
  case ch8R10 =>
    intro ds w' hS K hK
    have hc := (bcell hS).1
    have hf := (bcell hS).2
    have hz := hS.size
    try simp at hz
    go_simp
    try go_bits
    first
      | exact hK _ hS (Gr.refl _)
      | exact hK _ (by repeat (first | (with_reducible exact Below.refl _ _) | (with_reducible assumption) | ((with_reducible refine Below.setCell ?_ ?_ _); rotate_left; · (first | exact Nat.le_refl _ | (simp; done) | (simp; omega) | omega)) | ((with_reducible refine Below.alloc ?_ ?_ _); rotate_left; · (first | exact Nat.le_refl _ | (simp; done) | (simp; omega) | omega)) | (with_reducible apply Below.drew) | (with_reducible apply below_drewN') | (refine Below.trans ?_ (Below.mono (by assumption) (by first | exact Nat.le_refl _ | (simp; done) | (simp; omega) | omega))) | exact Below.refl _ _ | assumption)) (by repeat (first | (with_reducible exact Below.refl _ _) | (with_reducible assumption) | ((with_reducible refine Below.setCell ?_ ?_ _); rotate_left; · (first | exact Nat.le_refl _ | (simp; done) | (simp; omega) | omega)) | ((with_reducible refine Below.alloc ?_ ?_ _); rotate_left; · (first | exact Nat.le_refl _ | (simp; done) | (simp; omega) | omega)) | (with_reducible apply Below.drew) | (with_reducible apply below_drewN') | (refine Below.trans ?_ (Below.mono (by assumption) (by first | exact Nat.le_refl _ | (simp; done) | (simp; omega) | omega))) | exact Below.refl _ _ | assumption))
  case ca8R10 => (first | (simp [Act.put]; done) | (simp [Act.put, *]; done))
  try dsimp only
  refine wpW_end (by kernel_rfl) ?_
  intro we6 hg hS
  unfold NQ
  dsimp only
  replace b := b.gr hS
  replace y := y.gr hS
  replace o := o.gr hS
  replace s := s.gr hS
  replace hj6 := hj6.below hg hj6.base
  replace hBB := hBB.trans (Below.mono hS (Below.size hBB))
  clear hg hS
  clear l_b t0 t1 t2 t3 l_y u0 u1 u2 u3 l_o v0 v1 l_s s0 s1
  have l_b := b.lt
  have l_y := y.lt
  have l_o := o.lt
  have l_s := s.lt
  obtain ⟨t0, t1, t2, t3⟩ := jo_cells b
  obtain ⟨u0, u1, u2, u3⟩ := blk3p y
  obtain ⟨v0, v1, _⟩ := blk2 o
  obtain ⟨s0, s1, _⟩ := blk2 s
  clear hj6
  go_wp2_with fail
  refine (rCheckJoint_any j A c B _ (HJ.out _ hBB)).mono ?_
  rintro e wc7 ⟨rfl, hBc7⟩
  replace b := b.gr hBc7
  replace y := y.gr hBc7
  replace o := o.gr hBc7
  replace s := s.gr hBc7
  replace hBB := hBB.trans (Below.mono hBc7 (Below.size hBB))
  clear hBc7
  clear l_b t0 t1 t2 t3 l_y u0 u1 u2 u3 l_o v0 v1 l_s s0 s1
  have l_b := b.lt
  have l_y := y.lt
  have l_o := o.lt
  have l_s := s.lt
  obtain ⟨t0, t1, t2, t3⟩ := jo_cells b
  obtain ⟨u0, u1, u2, u3⟩ := blk3p y
  obtain ⟨v0, v1, _⟩ := blk2 o
  obtain ⟨s0, s1, _⟩ := blk2 s
  by_cases k0 : (jointE j).2 = 0
  case neg =>
    have e1 : r = ⟨0, 0, (jointE j).2⟩ := by rw [← HP.out, spotR_bad (by rw [if_neg (by rw [openFaceE_joint k0]; exact k0), openFaceE_joint k0]; exact k0), if_neg (by rw [openFaceE_joint k0]; exact k0), openFaceE_joint k0]
    have e2 : q = (false, (jointE j).2) := by rw [← HQ.out]; unfold inZoneR; rw [if_neg k0]
    subst e1 e2
    clear HP HQ
    generalize (jointE j).2 = E at *
    dsimp only at *
    have k1 : (E != 0) = true := by simpa using k0
    go_wp2
    go_ret
    exact ⟨rfl, hBB⟩
  have k1 : ((jointE j).2 != 0) = false := by simpa using k0
  obtain ⟨g1, g2, _⟩ := jointE_zero k0
  have hpl := Lib.hid (plOk_all k0)
  go_upto_region 11 with fail
  clear l_b t0 t1 t2 t3 l_y u0 u1 u2 u3 l_o v0 v1 l_s s0 s1
  go_cut [72] (fun s72 wx => s72 = .bool (!(wi x (-100000) 100000 && wi z (-100000) 100000)) ∧ wx = wc7)
  case first =>
    have l_b := b.lt
    have l_y := y.lt
    have l_o := o.lt
    have l_s := s.lt
    obtain ⟨t0, t1, t2, t3⟩ := jo_cells b
    obtain ⟨u0, u1, u2, u3⟩ := blk3p y
    obtain ⟨v0, v1, _⟩ := blk2 o
    obtain ⟨s0, s1, _⟩ := blk2 s
    cases hw1 : wi x (-100000) 100000
    · have W1 := Lib.hid hw1; clear hw1
      go_wp2_with fail
      refine (bWithin_any x (-100000) 100000 _).mono ?_
      rw [W1.out]
      rintro e wq ⟨rfl, rfl⟩
      go_wp2
      go_meet
      exact ⟨by rw [W1.out]; rfl, rfl⟩
    · have W1 := Lib.hid hw1; clear hw1
      cases hw2 : wi z (-100000) 100000
      · have W2 := Lib.hid hw2; clear hw2
        go_wp2_with fail
        refine (bWithin_any x (-100000) 100000 _).mono ?_
        rw [W1.out]
        rintro e wq ⟨rfl, rfl⟩
        go_wp2_with fail
        refine (bWithin_any z (-100000) 100000 _).mono ?_
        rw [W2.out]
        rintro e wq ⟨rfl, rfl⟩
        go_wp2
        go_meet
        exact ⟨by rw [W1.out, W2.out]; rfl, rfl⟩
      · have W2 := Lib.hid hw2; clear hw2
        go_wp2_with fail
        refine (bWithin_any x (-100000) 100000 _).mono ?_
        rw [W1.out]
        rintro e wq ⟨rfl, rfl⟩
        go_wp2_with fail
        refine (bWithin_any z (-100000) 100000 _).mono ?_
        rw [W2.out]
        rintro e wq ⟨rfl, rfl⟩
        go_wp2
        go_meet
        exact ⟨by rw [W1.out, W2.out]; rfl, rfl⟩
  case rest =>
  obtain ⟨rfl, rfl⟩ := hcut
  go_upto_if 72 with fail
  go_cut [6] (fun s6 wx => s6 = .bool false ∧ Below w.heap.size w wx ∧ Below wc.heap.size wc wx)
  case first =>
    have l_b := b.lt
    have l_y := y.lt
    have l_o := o.lt
    have l_s := s.lt
    obtain ⟨t0, t1, t2, t3⟩ := jo_cells b
    obtain ⟨u0, u1, u2, u3⟩ := blk3p y
    obtain ⟨v0, v1, _⟩ := blk2 o
    obtain ⟨s0, s1, _⟩ := blk2 s
    cases hw : (wi x (-100000) 100000 && wi z (-100000) 100000)
    · have e2 : q = (false, 2) := by rw [← HQ.out]; unfold inZoneR; rw [if_pos k0, if_neg (by rw [hw]; simp)]
      subst e2
      clear HQ
      go_wp2
      go_meet
      exact ⟨rfl, hBB, Below.refl _ _⟩
    · have e2 : q = (zoneB j x z, 0) := by rw [← HQ.out]; unfold inZoneR; rw [if_pos k0, if_pos hw]
      subst e2
      clear HQ
      have hw' : (-100000 ≤ x ∧ x ≤ 100000) ∧ (-100000 ≤ z ∧ z ≤ 100000) := by simpa [wi] using hw
      go_wp2_with fail
      refine (rInZone_any j x z A c B _ (HJ.out _ hBB) k0 hw'.1 hw'.2).mono ?_
      rintro e wc8 ⟨rfl, hBc8⟩
      replace b := b.gr hBc8
      replace y := y.gr hBc8
      replace o := o.gr hBc8
      replace s := s.gr hBc8
      have hBk := hBc8
      replace hBB := hBB.trans (Below.mono hBc8 (Below.size hBB))
      clear hBc8
      clear l_b t0 t1 t2 t3 l_y u0 u1 u2 u3 l_o v0 v1 l_s s0 s1
      have l_b := b.lt
      have l_y := y.lt
      have l_o := o.lt
      have l_s := s.lt
      obtain ⟨t0, t1, t2, t3⟩ := jo_cells b
      obtain ⟨u0, u1, u2, u3⟩ := blk3p y
      obtain ⟨v0, v1, _⟩ := blk2 o
      obtain ⟨s0, s1, _⟩ := blk2 s
      generalize zoneB j x z = zb at *
      go_wp2
      go_meet
      exact ⟨rfl, hBB, hBk⟩
  case rest =>
  obtain ⟨rfl, hBc, hBd⟩ := hcut
  replace b := b.gr hBd
  replace y := y.gr hBd
  replace s := s.gr hBd
  clear hBB hBd
  have hBB := hBc
  clear hBc
  clear o
  have l_b := b.lt
  have l_y := y.lt
  have l_s := s.lt
  obtain ⟨t0, t1, t2, t3⟩ := jo_cells b
  obtain ⟨u0, u1, u2, u3⟩ := blk3p y
  obtain ⟨s0, s1, _⟩ := blk2 s
  by_cases m0 : openFaceE j p2 = 0
  case neg =>
    have m1 : (openFaceE j p2 == 0) = false := by simpa using m0
    have m2 : (openFaceE j p2 != 0) = true := by simpa using m0
    have e1 : r = ⟨0, 0, openFaceE j p2⟩ := by rw [← HP.out, spotR_bad (by rw [if_neg m0]; exact m0), if_neg m0]
    subst e1
    go_wp2_with fail
    refine (lawFaceErr_any j p2 A c B _ (HJ.out _ hBB) (by omega)).mono ?_
    rintro e wc9 ⟨rfl, hBc9⟩
    replace b := b.gr hBc9
    replace y := y.gr hBc9
    replace s := s.gr hBc9
    replace hBB := hBB.trans (Below.mono hBc9 (Below.size hBB))
    clear hBc9
    clear l_b t0 t1 t2 t3 l_y u0 u1 u2 u3 l_s s0 s1
    have l_b := b.lt
    have l_y := y.lt
    have l_s := s.lt
    obtain ⟨t0, t1, t2, t3⟩ := jo_cells b
    obtain ⟨u0, u1, u2, u3⟩ := blk3p y
    obtain ⟨s0, s1, _⟩ := blk2 s
    go_wp2
    go_ret
    exact ⟨rfl, hBB⟩
  have m1 : (openFaceE j p2 == 0) = true := by simpa using m0
  by_cases p0' : ptE p0 p1 = 0
  case neg =>
    have m2 : (ptE p0 p1 != 0) = true := by simpa using p0'
    have e1 : r = ⟨0, 0, ptE p0 p1⟩ := by rw [← HP.out, spotR_bad (by rw [if_pos m0]; exact p0'), if_pos m0]
    subst e1
    go_wp2_with fail
    refine (lawFaceErr_any j p2 A c B _ (HJ.out _ hBB) (by omega)).mono ?_
    rintro e wc10 ⟨rfl, hBc10⟩
    replace b := b.gr hBc10
    replace y := y.gr hBc10
    replace s := s.gr hBc10
    replace hBB := hBB.trans (Below.mono hBc10 (Below.size hBB))
    clear hBc10
    clear l_b t0 t1 t2 t3 l_y u0 u1 u2 u3 l_s s0 s1
    have l_b := b.lt
    have l_y := y.lt
    have l_s := s.lt
    obtain ⟨t0, t1, t2, t3⟩ := jo_cells b
    obtain ⟨u0, u1, u2, u3⟩ := blk3p y
    obtain ⟨s0, s1, _⟩ := blk2 s
    go_wp2_with fail
    refine (rPointErr_any p0 p1 h0 h1 _).mono ?_
    rintro e wc11 ⟨rfl, hBc11⟩
    replace b := b.gr hBc11
    replace y := y.gr hBc11
    replace s := s.gr hBc11
    replace hBB := hBB.trans (Below.mono hBc11 (Below.size hBB))
    clear hBc11
    clear l_b t0 t1 t2 t3 l_y u0 u1 u2 u3 l_s s0 s1
    have l_b := b.lt
    have l_y := y.lt
    have l_s := s.lt
    obtain ⟨t0, t1, t2, t3⟩ := jo_cells b
    obtain ⟨u0, u1, u2, u3⟩ := blk3p y
    obtain ⟨s0, s1, _⟩ := blk2 s
    go_wp2
    go_ret
    exact ⟨rfl, hBB⟩
  have m2 : (ptE p0 p1 != 0) = false := by simpa using p0'
  obtain ⟨_, k, rfl, hk, hfa⟩ := openFaceE_zero m0
  have e1 : r = ⟨atV j.fs[k].2.fx j.fs[k].2.tx p0 p1, atV j.fs[k].2.fz j.fs[k].2.tz p0 p1, 0⟩ := by rw [← HP.out]; unfold spotR; rw [if_pos m0, if_pos p0', hfa]
  subst e1
  obtain ⟨n1, n2, n3, n4⟩ := pt_zero p0'
  have hN := Lib.hid (rSpotAt_any j.fs[k].1 j.fs[k].2 p0 p1 j.thick (hpl.out _ (List.getElem_mem hk)) g2 ⟨n1, by omega⟩ ⟨by omega, n4⟩)
  go_wp2_with fail
  refine (lawFaceErr_any j k A c B _ (HJ.out _ hBB) (by omega)).mono ?_
  rintro e wc12 ⟨rfl, hBc12⟩
  replace b := b.gr hBc12
  replace y := y.gr hBc12
  replace s := s.gr hBc12
  replace hBB := hBB.trans (Below.mono hBc12 (Below.size hBB))
  clear hBc12
  clear l_b t0 t1 t2 t3 l_y u0 u1 u2 u3 l_s s0 s1
  have l_b := b.lt
  have l_y := y.lt
  have l_s := s.lt
  obtain ⟨t0, t1, t2, t3⟩ := jo_cells b
  obtain ⟨u0, u1, u2, u3⟩ := blk3p y
  obtain ⟨s0, s1, _⟩ := blk2 s
  go_wp2_with fail
  refine (rPointErr_any p0 p1 h0 h1 _).mono ?_
  rintro e wc13 ⟨rfl, hBc13⟩
  replace b := b.gr hBc13
  replace y := y.gr hBc13
  replace s := s.gr hBc13
  replace hBB := hBB.trans (Below.mono hBc13 (Below.size hBB))
  clear hBc13
  clear l_b t0 t1 t2 t3 l_y u0 u1 u2 u3 l_s s0 s1
  have l_b := b.lt
  have l_y := y.lt
  have l_s := s.lt
  obtain ⟨t0, t1, t2, t3⟩ := jo_cells b
  obtain ⟨u0, u1, u2, u3⟩ := blk3p y
  obtain ⟨s0, s1, _⟩ := blk2 s
  obtain ⟨g, o, hAA, hg, c0, c1, c2, c3, c4⟩ := faceCells (HJ.out _ hBB).row hk
  have hgg := (HJ.out _ hBB).base
  have hlg : g < wc13.heap.size := by omega
  subst hAA
  have hkc : (k : Int) < (j.fs.length : Int) := by omega
  have hk0 : (0 : Int) ≤ (k : Int) := by omega
  unfold fcC at hN
  go_wp2_with fail
  refine wp_region_w (Gr _) (by kernel_rfl) (Below.refl _ _).drew ?_
  refine wpW_det (t' := ?ct0R11) 0 (by rfl) (by kernel_rfl) (NQ_free _) (by kernel_rfl) ?cw0R11 ?ch0R11 ?ca0R11 (Eq.refl _) ?cH0R11
  case cw0R11 => (go_simp; done)
  case ch0R11 =>
    intro ds w' hS K hK
    have hc := (bcell hS).1
    have hf := (bcell hS).2
    have hz := hS.size
    try simp at hz
    go_simp
    try go_bits
    first
      | exact hK _ hS (Gr.refl _)
      | (go_at_call 40; refine (hN.out _).mono ?_; rintro e w1 ⟨rfl, hB1⟩; obtain ⟨hc1, hf1⟩ := bcell hB1; have hz1 := hB1.size; (try simp at hz1); exact hK _ (Below.trans hS (Below.mono hB1 (by first | exact Nat.le_refl _ | (simp; done) | (simp; omega) | omega))) hB1)
      | exact hK _ (by repeat (first | (with_reducible exact Below.refl _ _) | (with_reducible assumption) | ((with_reducible refine Below.setCell ?_ ?_ _); rotate_left; · (first | exact Nat.le_refl _ | (simp; done) | (simp; omega) | omega)) | ((with_reducible refine Below.alloc ?_ ?_ _); rotate_left; · (first | exact Nat.le_refl _ | (simp; done) | (simp; omega) | omega)) | (with_reducible apply Below.drew) | (with_reducible apply below_drewN') | (refine Below.trans ?_ (Below.mono (by assumption) (by first | exact Nat.le_refl _ | (simp; done) | (simp; omega) | omega))) | exact Below.refl _ _ | assumption)) (by repeat (first | (with_reducible exact Below.refl _ _) | (with_reducible assumption) | ((with_reducible refine Below.setCell ?_ ?_ _); rotate_left; · (first | exact Nat.le_refl _ | (simp; done) | (simp; omega) | omega)) | ((with_reducible refine Below.alloc ?_ ?_ _); rotate_left; · (first | exact Nat.le_refl _ | (simp; done) | (simp; omega) | omega)) | (with_reducible apply Below.drew) | (with_reducible apply below_drewN') | (refine Below.trans ?_ (Below.mono (by assumption) (by first | exact Nat.le_refl _ | (simp; done) | (simp; omega) | omega))) | exact Below.refl _ _ | assumption))
  case ca0R11 => (first | (simp [Act.put]; done) | (simp [Act.put, *]; done))
  try dsimp only
  refine wpW_det (t' := ?ct1R11) 1 (by rfl) (by kernel_rfl) (NQ_free _) (by kernel_rfl) ?cw1R11 ?ch1R11 ?ca1R11 (Eq.refl _) ?cH1R11
  case cw1R11 => (go_simp; done)
  case ch1R11 =>
    intro ds w' hS K hK
    have hc := (bcell hS).1
    have hf := (bcell hS).2
    have hz := hS.size
    try simp at hz
    go_simp
    try go_bits
    first
      | exact hK _ hS (Gr.refl _)
      | (go_at_call 40; refine (hN.out _).mono ?_; rintro e w1 ⟨rfl, hB1⟩; obtain ⟨hc1, hf1⟩ := bcell hB1; have hz1 := hB1.size; (try simp at hz1); exact hK _ (Below.trans hS (Below.mono hB1 (by first | exact Nat.le_refl _ | (simp; done) | (simp; omega) | omega))) hB1)
      | exact hK _ (by repeat (first | (with_reducible exact Below.refl _ _) | (with_reducible assumption) | ((with_reducible refine Below.setCell ?_ ?_ _); rotate_left; · (first | exact Nat.le_refl _ | (simp; done) | (simp; omega) | omega)) | ((with_reducible refine Below.alloc ?_ ?_ _); rotate_left; · (first | exact Nat.le_refl _ | (simp; done) | (simp; omega) | omega)) | (with_reducible apply Below.drew) | (with_reducible apply below_drewN') | (refine Below.trans ?_ (Below.mono (by assumption) (by first | exact Nat.le_refl _ | (simp; done) | (simp; omega) | omega))) | exact Below.refl _ _ | assumption)) (by repeat (first | (with_reducible exact Below.refl _ _) | (with_reducible assumption) | ((with_reducible refine Below.setCell ?_ ?_ _); rotate_left; · (first | exact Nat.le_refl _ | (simp; done) | (simp; omega) | omega)) | ((with_reducible refine Below.alloc ?_ ?_ _); rotate_left; · (first | exact Nat.le_refl _ | (simp; done) | (simp; omega) | omega)) | (with_reducible apply Below.drew) | (with_reducible apply below_drewN') | (refine Below.trans ?_ (Below.mono (by assumption) (by first | exact Nat.le_refl _ | (simp; done) | (simp; omega) | omega))) | exact Below.refl _ _ | assumption))
  case ca1R11 => (first | (simp [Act.put]; done) | (simp [Act.put, *]; done))
  try dsimp only
  refine wpW_det (t' := ?ct2R11) 2 (by rfl) (by kernel_rfl) (NQ_free _) (by kernel_rfl) ?cw2R11 ?ch2R11 ?ca2R11 (Eq.refl _) ?cH2R11
  case cw2R11 => (go_simp; done)
  case ch2R11 =>
    intro ds w' hS K hK
    have hc := (bcell hS).1
    have hf := (bcell hS).2
    have hz := hS.size
    try simp at hz
    go_simp
    try go_bits
    first
      | exact hK _ hS (Gr.refl _)
      | (go_at_call 40; refine (hN.out _).mono ?_; rintro e w1 ⟨rfl, hB1⟩; obtain ⟨hc1, hf1⟩ := bcell hB1; have hz1 := hB1.size; (try simp at hz1); exact hK _ (Below.trans hS (Below.mono hB1 (by first | exact Nat.le_refl _ | (simp; done) | (simp; omega) | omega))) hB1)
      | exact hK _ (by repeat (first | (with_reducible exact Below.refl _ _) | (with_reducible assumption) | ((with_reducible refine Below.setCell ?_ ?_ _); rotate_left; · (first | exact Nat.le_refl _ | (simp; done) | (simp; omega) | omega)) | ((with_reducible refine Below.alloc ?_ ?_ _); rotate_left; · (first | exact Nat.le_refl _ | (simp; done) | (simp; omega) | omega)) | (with_reducible apply Below.drew) | (with_reducible apply below_drewN') | (refine Below.trans ?_ (Below.mono (by assumption) (by first | exact Nat.le_refl _ | (simp; done) | (simp; omega) | omega))) | exact Below.refl _ _ | assumption)) (by repeat (first | (with_reducible exact Below.refl _ _) | (with_reducible assumption) | ((with_reducible refine Below.setCell ?_ ?_ _); rotate_left; · (first | exact Nat.le_refl _ | (simp; done) | (simp; omega) | omega)) | ((with_reducible refine Below.alloc ?_ ?_ _); rotate_left; · (first | exact Nat.le_refl _ | (simp; done) | (simp; omega) | omega)) | (with_reducible apply Below.drew) | (with_reducible apply below_drewN') | (refine Below.trans ?_ (Below.mono (by assumption) (by first | exact Nat.le_refl _ | (simp; done) | (simp; omega) | omega))) | exact Below.refl _ _ | assumption))
  case ca2R11 => (first | (simp [Act.put]; done) | (simp [Act.put, *]; done))
  try dsimp only
  refine wpW_det (t' := ?ct3R11) 3 (by rfl) (by kernel_rfl) (NQ_free _) (by kernel_rfl) ?cw3R11 ?ch3R11 ?ca3R11 (Eq.refl _) ?cH3R11
  case cw3R11 => (go_simp; done)
  case ch3R11 =>
    intro ds w' hS K hK
    have hc := (bcell hS).1
    have hf := (bcell hS).2
    have hz := hS.size
    try simp at hz
    go_simp
    try go_bits
    first
      | exact hK _ hS (Gr.refl _)
      | (go_at_call 40; refine (hN.out _).mono ?_; rintro e w1 ⟨rfl, hB1⟩; obtain ⟨hc1, hf1⟩ := bcell hB1; have hz1 := hB1.size; (try simp at hz1); exact hK _ (Below.trans hS (Below.mono hB1 (by first | exact Nat.le_refl _ | (simp; done) | (simp; omega) | omega))) hB1)
      | exact hK _ (by repeat (first | (with_reducible exact Below.refl _ _) | (with_reducible assumption) | ((with_reducible refine Below.setCell ?_ ?_ _); rotate_left; · (first | exact Nat.le_refl _ | (simp; done) | (simp; omega) | omega)) | ((with_reducible refine Below.alloc ?_ ?_ _); rotate_left; · (first | exact Nat.le_refl _ | (simp; done) | (simp; omega) | omega)) | (with_reducible apply Below.drew) | (with_reducible apply below_drewN') | (refine Below.trans ?_ (Below.mono (by assumption) (by first | exact Nat.le_refl _ | (simp; done) | (simp; omega) | omega))) | exact Below.refl _ _ | assumption)) (by repeat (first | (with_reducible exact Below.refl _ _) | (with_reducible assumption) | ((with_reducible refine Below.setCell ?_ ?_ _); rotate_left; · (first | exact Nat.le_refl _ | (simp; done) | (simp; omega) | omega)) | ((with_reducible refine Below.alloc ?_ ?_ _); rotate_left; · (first | exact Nat.le_refl _ | (simp; done) | (simp; omega) | omega)) | (with_reducible apply Below.drew) | (with_reducible apply below_drewN') | (refine Below.trans ?_ (Below.mono (by assumption) (by first | exact Nat.le_refl _ | (simp; done) | (simp; omega) | omega))) | exact Below.refl _ _ | assumption))
  case ca3R11 => (first | (simp [Act.put]; done) | (simp [Act.put, *]; done))
  try dsimp only
  refine wpW_det (t' := ?ct4R11) 4 (by rfl) (by kernel_rfl) (NQ_free _) (by kernel_rfl) ?cw4R11 ?ch4R11 ?ca4R11 (Eq.refl _) ?cH4R11
  case cw4R11 => (go_simp; done)
  case ch4R11 =>
    intro ds w' hS K hK
    have hc := (bcell hS).1
    have hf := (bcell hS).2
    have hz := hS.size
    try simp at hz
    go_simp
    try go_bits
    first
      | exact hK _ hS (Gr.refl _)
      | (go_at_call 40; refine (hN.out _).mono ?_; rintro e w1 ⟨rfl, hB1⟩; obtain ⟨hc1, hf1⟩ := bcell hB1; have hz1 := hB1.size; (try simp at hz1); exact hK _ (Below.trans hS (Below.mono hB1 (by first | exact Nat.le_refl _ | (simp; done) | (simp; omega) | omega))) hB1)
      | exact hK _ (by repeat (first | (with_reducible exact Below.refl _ _) | (with_reducible assumption) | ((with_reducible refine Below.setCell ?_ ?_ _); rotate_left; · (first | exact Nat.le_refl _ | (simp; done) | (simp; omega) | omega)) | ((with_reducible refine Below.alloc ?_ ?_ _); rotate_left; · (first | exact Nat.le_refl _ | (simp; done) | (simp; omega) | omega)) | (with_reducible apply Below.drew) | (with_reducible apply below_drewN') | (refine Below.trans ?_ (Below.mono (by assumption) (by first | exact Nat.le_refl _ | (simp; done) | (simp; omega) | omega))) | exact Below.refl _ _ | assumption)) (by repeat (first | (with_reducible exact Below.refl _ _) | (with_reducible assumption) | ((with_reducible refine Below.setCell ?_ ?_ _); rotate_left; · (first | exact Nat.le_refl _ | (simp; done) | (simp; omega) | omega)) | ((with_reducible refine Below.alloc ?_ ?_ _); rotate_left; · (first | exact Nat.le_refl _ | (simp; done) | (simp; omega) | omega)) | (with_reducible apply Below.drew) | (with_reducible apply below_drewN') | (refine Below.trans ?_ (Below.mono (by assumption) (by first | exact Nat.le_refl _ | (simp; done) | (simp; omega) | omega))) | exact Below.refl _ _ | assumption))
  case ca4R11 => (first | (simp [Act.put]; done) | (simp [Act.put, *]; done))
  try dsimp only
  refine wpW_det (t' := ?ct5R11) 5 (by rfl) (by kernel_rfl) (NQ_free _) (by kernel_rfl) ?cw5R11 ?ch5R11 ?ca5R11 (Eq.refl _) ?cH5R11
  case cw5R11 => (go_simp; done)
  case ch5R11 =>
    intro ds w' hS K hK
    have hc := (bcell hS).1
    have hf := (bcell hS).2
    have hz := hS.size
    try simp at hz
    go_simp
    try go_bits
    first
      | exact hK _ hS (Gr.refl _)
      | (go_at_call 40; refine (hN.out _).mono ?_; rintro e w1 ⟨rfl, hB1⟩; obtain ⟨hc1, hf1⟩ := bcell hB1; have hz1 := hB1.size; (try simp at hz1); exact hK _ (Below.trans hS (Below.mono hB1 (by first | exact Nat.le_refl _ | (simp; done) | (simp; omega) | omega))) hB1)
      | exact hK _ (by repeat (first | (with_reducible exact Below.refl _ _) | (with_reducible assumption) | ((with_reducible refine Below.setCell ?_ ?_ _); rotate_left; · (first | exact Nat.le_refl _ | (simp; done) | (simp; omega) | omega)) | ((with_reducible refine Below.alloc ?_ ?_ _); rotate_left; · (first | exact Nat.le_refl _ | (simp; done) | (simp; omega) | omega)) | (with_reducible apply Below.drew) | (with_reducible apply below_drewN') | (refine Below.trans ?_ (Below.mono (by assumption) (by first | exact Nat.le_refl _ | (simp; done) | (simp; omega) | omega))) | exact Below.refl _ _ | assumption)) (by repeat (first | (with_reducible exact Below.refl _ _) | (with_reducible assumption) | ((with_reducible refine Below.setCell ?_ ?_ _); rotate_left; · (first | exact Nat.le_refl _ | (simp; done) | (simp; omega) | omega)) | ((with_reducible refine Below.alloc ?_ ?_ _); rotate_left; · (first | exact Nat.le_refl _ | (simp; done) | (simp; omega) | omega)) | (with_reducible apply Below.drew) | (with_reducible apply below_drewN') | (refine Below.trans ?_ (Below.mono (by assumption) (by first | exact Nat.le_refl _ | (simp; done) | (simp; omega) | omega))) | exact Below.refl _ _ | assumption))
  case ca5R11 => (first | (simp [Act.put]; done) | (simp [Act.put, *]; done))
  try dsimp only
  refine wpW_det (t' := ?ct6R11) 6 (by rfl) (by kernel_rfl) (NQ_free _) (by kernel_rfl) ?cw6R11 ?ch6R11 ?ca6R11 (Eq.refl _) ?cH6R11
  case cw6R11 => (go_simp; done)
  case ch6R11 =>
    intro ds w' hS K hK
    have hc := (bcell hS).1
    have hf := (bcell hS).2
    have hz := hS.size
    try simp at hz
    go_simp
    try go_bits
    first
      | exact hK _ hS (Gr.refl _)
      | (go_at_call 40; refine (hN.out _).mono ?_; rintro e w1 ⟨rfl, hB1⟩; obtain ⟨hc1, hf1⟩ := bcell hB1; have hz1 := hB1.size; (try simp at hz1); exact hK _ (Below.trans hS (Below.mono hB1 (by first | exact Nat.le_refl _ | (simp; done) | (simp; omega) | omega))) hB1)
      | exact hK _ (by repeat (first | (with_reducible exact Below.refl _ _) | (with_reducible assumption) | ((with_reducible refine Below.setCell ?_ ?_ _); rotate_left; · (first | exact Nat.le_refl _ | (simp; done) | (simp; omega) | omega)) | ((with_reducible refine Below.alloc ?_ ?_ _); rotate_left; · (first | exact Nat.le_refl _ | (simp; done) | (simp; omega) | omega)) | (with_reducible apply Below.drew) | (with_reducible apply below_drewN') | (refine Below.trans ?_ (Below.mono (by assumption) (by first | exact Nat.le_refl _ | (simp; done) | (simp; omega) | omega))) | exact Below.refl _ _ | assumption)) (by repeat (first | (with_reducible exact Below.refl _ _) | (with_reducible assumption) | ((with_reducible refine Below.setCell ?_ ?_ _); rotate_left; · (first | exact Nat.le_refl _ | (simp; done) | (simp; omega) | omega)) | ((with_reducible refine Below.alloc ?_ ?_ _); rotate_left; · (first | exact Nat.le_refl _ | (simp; done) | (simp; omega) | omega)) | (with_reducible apply Below.drew) | (with_reducible apply below_drewN') | (refine Below.trans ?_ (Below.mono (by assumption) (by first | exact Nat.le_refl _ | (simp; done) | (simp; omega) | omega))) | exact Below.refl _ _ | assumption))
  case ca6R11 => (first | (simp [Act.put]; done) | (simp [Act.put, *]; done))
  try dsimp only
  refine wpW_det (t' := ?ct7R11) 7 (by rfl) (by kernel_rfl) (NQ_free _) (by kernel_rfl) ?cw7R11 ?ch7R11 ?ca7R11 (Eq.refl _) ?cH7R11
  case cw7R11 => (go_simp; done)
  case ch7R11 =>
    intro ds w' hS K hK
    have hc := (bcell hS).1
    have hf := (bcell hS).2
    have hz := hS.size
    try simp at hz
    go_simp
    try go_bits
    first
      | exact hK _ hS (Gr.refl _)
      | (go_at_call 40; refine (hN.out _).mono ?_; rintro e w1 ⟨rfl, hB1⟩; obtain ⟨hc1, hf1⟩ := bcell hB1; have hz1 := hB1.size; (try simp at hz1); exact hK _ (Below.trans hS (Below.mono hB1 (by first | exact Nat.le_refl _ | (simp; done) | (simp; omega) | omega))) hB1)
      | exact hK _ (by repeat (first | (with_reducible exact Below.refl _ _) | (with_reducible assumption) | ((with_reducible refine Below.setCell ?_ ?_ _); rotate_left; · (first | exact Nat.le_refl _ | (simp; done) | (simp; omega) | omega)) | ((with_reducible refine Below.alloc ?_ ?_ _); rotate_left; · (first | exact Nat.le_refl _ | (simp; done) | (simp; omega) | omega)) | (with_reducible apply Below.drew) | (with_reducible apply below_drewN') | (refine Below.trans ?_ (Below.mono (by assumption) (by first | exact Nat.le_refl _ | (simp; done) | (simp; omega) | omega))) | exact Below.refl _ _ | assumption)) (by repeat (first | (with_reducible exact Below.refl _ _) | (with_reducible assumption) | ((with_reducible refine Below.setCell ?_ ?_ _); rotate_left; · (first | exact Nat.le_refl _ | (simp; done) | (simp; omega) | omega)) | ((with_reducible refine Below.alloc ?_ ?_ _); rotate_left; · (first | exact Nat.le_refl _ | (simp; done) | (simp; omega) | omega)) | (with_reducible apply Below.drew) | (with_reducible apply below_drewN') | (refine Below.trans ?_ (Below.mono (by assumption) (by first | exact Nat.le_refl _ | (simp; done) | (simp; omega) | omega))) | exact Below.refl _ _ | assumption))
  case ca7R11 => (first | (simp [Act.put]; done) | (simp [Act.put, *]; done))
  try dsimp only
  refine wpW_det (t' := ?ct8R11) 8 (by rfl) (by kernel_rfl) (NQ_free _) (by kernel_rfl) ?cw8R11 ?ch8R11 ?ca8R11 (Eq.refl _) ?cH8R11
  case cw8R11 => (go_simp; done)
  case ch8R11 =>
    intro ds w' hS K hK
    have hc := (bcell hS).1
    have hf := (bcell hS).2
    have hz := hS.size
    try simp at hz
    go_simp
    try go_bits
    first
      | exact hK _ hS (Gr.refl _)
      | (go_at_call 40; refine (hN.out _).mono ?_; rintro e w1 ⟨rfl, hB1⟩; obtain ⟨hc1, hf1⟩ := bcell hB1; have hz1 := hB1.size; (try simp at hz1); exact hK _ (Below.trans hS (Below.mono hB1 (by first | exact Nat.le_refl _ | (simp; done) | (simp; omega) | omega))) hB1)
      | exact hK _ (by repeat (first | (with_reducible exact Below.refl _ _) | (with_reducible assumption) | ((with_reducible refine Below.setCell ?_ ?_ _); rotate_left; · (first | exact Nat.le_refl _ | (simp; done) | (simp; omega) | omega)) | ((with_reducible refine Below.alloc ?_ ?_ _); rotate_left; · (first | exact Nat.le_refl _ | (simp; done) | (simp; omega) | omega)) | (with_reducible apply Below.drew) | (with_reducible apply below_drewN') | (refine Below.trans ?_ (Below.mono (by assumption) (by first | exact Nat.le_refl _ | (simp; done) | (simp; omega) | omega))) | exact Below.refl _ _ | assumption)) (by repeat (first | (with_reducible exact Below.refl _ _) | (with_reducible assumption) | ((with_reducible refine Below.setCell ?_ ?_ _); rotate_left; · (first | exact Nat.le_refl _ | (simp; done) | (simp; omega) | omega)) | ((with_reducible refine Below.alloc ?_ ?_ _); rotate_left; · (first | exact Nat.le_refl _ | (simp; done) | (simp; omega) | omega)) | (with_reducible apply Below.drew) | (with_reducible apply below_drewN') | (refine Below.trans ?_ (Below.mono (by assumption) (by first | exact Nat.le_refl _ | (simp; done) | (simp; omega) | omega))) | exact Below.refl _ _ | assumption))
  case ca8R11 => (first | (simp [Act.put]; done) | (simp [Act.put, *]; done))
  try dsimp only
  refine wpW_det (t' := ?ct9R11) 9 (by rfl) (by kernel_rfl) (NQ_free _) (by kernel_rfl) ?cw9R11 ?ch9R11 ?ca9R11 (Eq.refl _) ?cH9R11
  case cw9R11 => (go_simp; done)
  case ch9R11 =>
    intro ds w' hS K hK
    have hc := (bcell hS).1
    have hf := (bcell hS).2
    have hz := hS.size
    try simp at hz
    go_simp
    try go_bits
    first
      | exact hK _ hS (Gr.refl _)
      | (go_at_call 40; refine (hN.out _).mono ?_; rintro e w1 ⟨rfl, hB1⟩; obtain ⟨hc1, hf1⟩ := bcell hB1; have hz1 := hB1.size; (try simp at hz1); exact hK _ (Below.trans hS (Below.mono hB1 (by first | exact Nat.le_refl _ | (simp; done) | (simp; omega) | omega))) hB1)
      | exact hK _ (by repeat (first | (with_reducible exact Below.refl _ _) | (with_reducible assumption) | ((with_reducible refine Below.setCell ?_ ?_ _); rotate_left; · (first | exact Nat.le_refl _ | (simp; done) | (simp; omega) | omega)) | ((with_reducible refine Below.alloc ?_ ?_ _); rotate_left; · (first | exact Nat.le_refl _ | (simp; done) | (simp; omega) | omega)) | (with_reducible apply Below.drew) | (with_reducible apply below_drewN') | (refine Below.trans ?_ (Below.mono (by assumption) (by first | exact Nat.le_refl _ | (simp; done) | (simp; omega) | omega))) | exact Below.refl _ _ | assumption)) (by repeat (first | (with_reducible exact Below.refl _ _) | (with_reducible assumption) | ((with_reducible refine Below.setCell ?_ ?_ _); rotate_left; · (first | exact Nat.le_refl _ | (simp; done) | (simp; omega) | omega)) | ((with_reducible refine Below.alloc ?_ ?_ _); rotate_left; · (first | exact Nat.le_refl _ | (simp; done) | (simp; omega) | omega)) | (with_reducible apply Below.drew) | (with_reducible apply below_drewN') | (refine Below.trans ?_ (Below.mono (by assumption) (by first | exact Nat.le_refl _ | (simp; done) | (simp; omega) | omega))) | exact Below.refl _ _ | assumption))
  case ca9R11 => (first | (simp [Act.put]; done) | (simp [Act.put, *]; done))
  try dsimp only
  refine wpW_det (t' := ?ct10R11) 10 (by rfl) (by kernel_rfl) (NQ_free _) (by kernel_rfl) ?cw10R11 ?ch10R11 ?ca10R11 (Eq.refl _) ?cH10R11
  case cw10R11 => (go_simp; done)
  case ch10R11 =>
    intro ds w' hS K hK
    have hc := (bcell hS).1
    have hf := (bcell hS).2
    have hz := hS.size
    try simp at hz
    go_simp
    try go_bits
    first
      | exact hK _ hS (Gr.refl _)
      | (go_at_call 40; refine (hN.out _).mono ?_; rintro e w1 ⟨rfl, hB1⟩; obtain ⟨hc1, hf1⟩ := bcell hB1; have hz1 := hB1.size; (try simp at hz1); exact hK _ (Below.trans hS (Below.mono hB1 (by first | exact Nat.le_refl _ | (simp; done) | (simp; omega) | omega))) hB1)
      | exact hK _ (by repeat (first | (with_reducible exact Below.refl _ _) | (with_reducible assumption) | ((with_reducible refine Below.setCell ?_ ?_ _); rotate_left; · (first | exact Nat.le_refl _ | (simp; done) | (simp; omega) | omega)) | ((with_reducible refine Below.alloc ?_ ?_ _); rotate_left; · (first | exact Nat.le_refl _ | (simp; done) | (simp; omega) | omega)) | (with_reducible apply Below.drew) | (with_reducible apply below_drewN') | (refine Below.trans ?_ (Below.mono (by assumption) (by first | exact Nat.le_refl _ | (simp; done) | (simp; omega) | omega))) | exact Below.refl _ _ | assumption)) (by repeat (first | (with_reducible exact Below.refl _ _) | (with_reducible assumption) | ((with_reducible refine Below.setCell ?_ ?_ _); rotate_left; · (first | exact Nat.le_refl _ | (simp; done) | (simp; omega) | omega)) | ((with_reducible refine Below.alloc ?_ ?_ _); rotate_left; · (first | exact Nat.le_refl _ | (simp; done) | (simp; omega) | omega)) | (with_reducible apply Below.drew) | (with_reducible apply below_drewN') | (refine Below.trans ?_ (Below.mono (by assumption) (by first | exact Nat.le_refl _ | (simp; done) | (simp; omega) | omega))) | exact Below.refl _ _ | assumption))
  case ca10R11 => (first | (simp [Act.put]; done) | (simp [Act.put, *]; done))
  try dsimp only
  refine wpW_det (t' := ?ct11R11) 11 (by rfl) (by kernel_rfl) (NQ_free _) (by kernel_rfl) ?cw11R11 ?ch11R11 ?ca11R11 (Eq.refl _) ?cH11R11
  case cw11R11 => (go_simp; done)
  case ch11R11 =>
    intro ds w' hS K hK
    have hc := (bcell hS).1
    have hf := (bcell hS).2
    have hz := hS.size
    try simp at hz
    go_simp
    try go_bits
    first
      | exact hK _ hS (Gr.refl _)
      | (go_at_call 40; refine (hN.out _).mono ?_; rintro e w1 ⟨rfl, hB1⟩; obtain ⟨hc1, hf1⟩ := bcell hB1; have hz1 := hB1.size; (try simp at hz1); exact hK _ (Below.trans hS (Below.mono hB1 (by first | exact Nat.le_refl _ | (simp; done) | (simp; omega) | omega))) hB1)
      | exact hK _ (by repeat (first | (with_reducible exact Below.refl _ _) | (with_reducible assumption) | ((with_reducible refine Below.setCell ?_ ?_ _); rotate_left; · (first | exact Nat.le_refl _ | (simp; done) | (simp; omega) | omega)) | ((with_reducible refine Below.alloc ?_ ?_ _); rotate_left; · (first | exact Nat.le_refl _ | (simp; done) | (simp; omega) | omega)) | (with_reducible apply Below.drew) | (with_reducible apply below_drewN') | (refine Below.trans ?_ (Below.mono (by assumption) (by first | exact Nat.le_refl _ | (simp; done) | (simp; omega) | omega))) | exact Below.refl _ _ | assumption)) (by repeat (first | (with_reducible exact Below.refl _ _) | (with_reducible assumption) | ((with_reducible refine Below.setCell ?_ ?_ _); rotate_left; · (first | exact Nat.le_refl _ | (simp; done) | (simp; omega) | omega)) | ((with_reducible refine Below.alloc ?_ ?_ _); rotate_left; · (first | exact Nat.le_refl _ | (simp; done) | (simp; omega) | omega)) | (with_reducible apply Below.drew) | (with_reducible apply below_drewN') | (refine Below.trans ?_ (Below.mono (by assumption) (by first | exact Nat.le_refl _ | (simp; done) | (simp; omega) | omega))) | exact Below.refl _ _ | assumption))
  case ca11R11 => (first | (simp [Act.put]; done) | (simp [Act.put, *]; done))
  try dsimp only
  refine wpW_det (t' := ?ct12R11) 12 (by rfl) (by kernel_rfl) (NQ_free _) (by kernel_rfl) ?cw12R11 ?ch12R11 ?ca12R11 (Eq.refl _) ?cH12R11
  case cw12R11 => (go_simp; done)
  case ch12R11 =>
    intro ds w' hS K hK
    have hc := (bcell hS).1
    have hf := (bcell hS).2
    have hz := hS.size
    try simp at hz
    go_simp
    try go_bits
    first
      | exact hK _ hS (Gr.refl _)
      | (go_at_call 40; refine (hN.out _).mono ?_; rintro e w1 ⟨rfl, hB1⟩; obtain ⟨hc1, hf1⟩ := bcell hB1; have hz1 := hB1.size; (try simp at hz1); exact hK _ (Below.trans hS (Below.mono hB1 (by first | exact Nat.le_refl _ | (simp; done) | (simp; omega) | omega))) hB1)
      | exact hK _ (by repeat (first | (with_reducible exact Below.refl _ _) | (with_reducible assumption) | ((with_reducible refine Below.setCell ?_ ?_ _); rotate_left; · (first | exact Nat.le_refl _ | (simp; done) | (simp; omega) | omega)) | ((with_reducible refine Below.alloc ?_ ?_ _); rotate_left; · (first | exact Nat.le_refl _ | (simp; done) | (simp; omega) | omega)) | (with_reducible apply Below.drew) | (with_reducible apply below_drewN') | (refine Below.trans ?_ (Below.mono (by assumption) (by first | exact Nat.le_refl _ | (simp; done) | (simp; omega) | omega))) | exact Below.refl _ _ | assumption)) (by repeat (first | (with_reducible exact Below.refl _ _) | (with_reducible assumption) | ((with_reducible refine Below.setCell ?_ ?_ _); rotate_left; · (first | exact Nat.le_refl _ | (simp; done) | (simp; omega) | omega)) | ((with_reducible refine Below.alloc ?_ ?_ _); rotate_left; · (first | exact Nat.le_refl _ | (simp; done) | (simp; omega) | omega)) | (with_reducible apply Below.drew) | (with_reducible apply below_drewN') | (refine Below.trans ?_ (Below.mono (by assumption) (by first | exact Nat.le_refl _ | (simp; done) | (simp; omega) | omega))) | exact Below.refl _ _ | assumption))
  case ca12R11 => (first | (simp [Act.put]; done) | (simp [Act.put, *]; done))
  try dsimp only
  refine wpW_det (t' := ?ct13R11) 13 (by rfl) (by kernel_rfl) (NQ_free _) (by kernel_rfl) ?cw13R11 ?ch13R11 ?ca13R11 (Eq.refl _) ?cH13R11
  case cw13R11 => (go_simp; done)
  case ch13R11 =>
    intro ds w' hS K hK
    have hc := (bcell hS).1
    have hf := (bcell hS).2
    have hz := hS.size
    try simp at hz
    go_simp
    try go_bits
    first
      | exact hK _ hS (Gr.refl _)
      | (go_at_call 40; refine (hN.out _).mono ?_; rintro e w1 ⟨rfl, hB1⟩; obtain ⟨hc1, hf1⟩ := bcell hB1; have hz1 := hB1.size; (try simp at hz1); exact hK _ (Below.trans hS (Below.mono hB1 (by first | exact Nat.le_refl _ | (simp; done) | (simp; omega) | omega))) hB1)
      | exact hK _ (by repeat (first | (with_reducible exact Below.refl _ _) | (with_reducible assumption) | ((with_reducible refine Below.setCell ?_ ?_ _); rotate_left; · (first | exact Nat.le_refl _ | (simp; done) | (simp; omega) | omega)) | ((with_reducible refine Below.alloc ?_ ?_ _); rotate_left; · (first | exact Nat.le_refl _ | (simp; done) | (simp; omega) | omega)) | (with_reducible apply Below.drew) | (with_reducible apply below_drewN') | (refine Below.trans ?_ (Below.mono (by assumption) (by first | exact Nat.le_refl _ | (simp; done) | (simp; omega) | omega))) | exact Below.refl _ _ | assumption)) (by repeat (first | (with_reducible exact Below.refl _ _) | (with_reducible assumption) | ((with_reducible refine Below.setCell ?_ ?_ _); rotate_left; · (first | exact Nat.le_refl _ | (simp; done) | (simp; omega) | omega)) | ((with_reducible refine Below.alloc ?_ ?_ _); rotate_left; · (first | exact Nat.le_refl _ | (simp; done) | (simp; omega) | omega)) | (with_reducible apply Below.drew) | (with_reducible apply below_drewN') | (refine Below.trans ?_ (Below.mono (by assumption) (by first | exact Nat.le_refl _ | (simp; done) | (simp; omega) | omega))) | exact Below.refl _ _ | assumption))
  case ca13R11 => (first | (simp [Act.put]; done) | (simp [Act.put, *]; done))
  try dsimp only
  refine wpW_det (t' := ?ct14R11) 14 (by rfl) (by kernel_rfl) (NQ_free _) (by kernel_rfl) ?cw14R11 ?ch14R11 ?ca14R11 (Eq.refl _) ?cH14R11
  case cw14R11 => (go_simp; done)
  case ch14R11 =>
    intro ds w' hS K hK
    have hc := (bcell hS).1
    have hf := (bcell hS).2
    have hz := hS.size
    try simp at hz
    go_simp
    try go_bits
    first
      | exact hK _ hS (Gr.refl _)
      | (go_at_call 40; refine (hN.out _).mono ?_; rintro e w1 ⟨rfl, hB1⟩; obtain ⟨hc1, hf1⟩ := bcell hB1; have hz1 := hB1.size; (try simp at hz1); exact hK _ (Below.trans hS (Below.mono hB1 (by first | exact Nat.le_refl _ | (simp; done) | (simp; omega) | omega))) hB1)
      | exact hK _ (by repeat (first | (with_reducible exact Below.refl _ _) | (with_reducible assumption) | ((with_reducible refine Below.setCell ?_ ?_ _); rotate_left; · (first | exact Nat.le_refl _ | (simp; done) | (simp; omega) | omega)) | ((with_reducible refine Below.alloc ?_ ?_ _); rotate_left; · (first | exact Nat.le_refl _ | (simp; done) | (simp; omega) | omega)) | (with_reducible apply Below.drew) | (with_reducible apply below_drewN') | (refine Below.trans ?_ (Below.mono (by assumption) (by first | exact Nat.le_refl _ | (simp; done) | (simp; omega) | omega))) | exact Below.refl _ _ | assumption)) (by repeat (first | (with_reducible exact Below.refl _ _) | (with_reducible assumption) | ((with_reducible refine Below.setCell ?_ ?_ _); rotate_left; · (first | exact Nat.le_refl _ | (simp; done) | (simp; omega) | omega)) | ((with_reducible refine Below.alloc ?_ ?_ _); rotate_left; · (first | exact Nat.le_refl _ | (simp; done) | (simp; omega) | omega)) | (with_reducible apply Below.drew) | (with_reducible apply below_drewN') | (refine Below.trans ?_ (Below.mono (by assumption) (by first | exact Nat.le_refl _ | (simp; done) | (simp; omega) | omega))) | exact Below.refl _ _ | assumption))
  case ca14R11 => (first | (simp [Act.put]; done) | (simp [Act.put, *]; done))
  try dsimp only
  refine wpW_end (by kernel_rfl) ?_
  intro we14 hg hS
  unfold NQ
  dsimp only
  replace b := b.gr hS
  replace y := y.gr hS
  replace s := s.gr hS
  replace hBB := hBB.trans (Below.mono hS (Below.size hBB))
  clear hg hS
  clear l_b t0 t1 t2 t3 l_y u0 u1 u2 u3 l_s s0 s1
  have l_b := b.lt
  have l_y := y.lt
  have l_s := s.lt
  obtain ⟨t0, t1, t2, t3⟩ := jo_cells b
  obtain ⟨u0, u1, u2, u3⟩ := blk3p y
  obtain ⟨s0, s1, _⟩ := blk2 s
  go_wp2
  go_ret
  exact ⟨by simp, hBB⟩
end Go.Proofs.YtfbnpfhnffahdaaGreatDoor
