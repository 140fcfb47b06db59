/- Contract of the law CoverExactly: true. -/
import Derived.Test.YtfbnpfhnffahdaaGreatDoorCwH
import Derived.Test.YtfbnpfhnffahdaaGreatDoorCwI
import Derived.Test.YtfbnpfhnffahdaaGreatDoorCwY
import Derived.Test.YtfbnpfhnffahdaaGreatDoorCwZ
namespace Go.Proofs.YtfbnpfhnffahdaaGreatDoor
open Go.RowKit

theorem own_caps {w : World} {base e size n cap : Nat} {A : Option Addr} {xs : List Value} (h : w.ownsRow base e size (.slice A n cap) n xs) : cap ≤ 9223372036854775807 ∧ n ≤ cap ∧ (A = none → cap = 0) := by
  rcases h.2 with ⟨h1, rfl⟩ | ⟨g, cap', cur, h1, _, _, hn, hm, _⟩
  · simp at h1; omega
  · simp at h1
    obtain ⟨rfl, rfl⟩ := h1
    exact ⟨by simpa [maxLen] using hm, hn, by simp⟩
theorem fewB_all {j : Jo} (h : fewB j = true) : j.fs.length ≤ 14 ∧ j.nm.size ≤ 20 ∧ ∀ p ∈ j.fs, p.1.size ≤ 20 := by
  unfold fewB at h
  simp only [Bool.and_eq_true, Bool.not_eq_true', Bool.or_eq_false_iff, List.all_eq_true, decide_eq_true_eq, decide_eq_false_iff_not] at h
  exact ⟨by omega, by omega, h.2⟩
theorem JoOk.mk_ {j : Jo} {A : Option Addr} {c B : Nat} {w : World} (h1 : ∀ p ∈ j.fs, p.1.size ≤ 20) (h2 : j.nm.size ≤ 20) (h3 : j.fs.length ≤ c) (h4 : c ≤ 9223372036854775807) (h5 : Row w B 5 A j.fs.length (fcsC j.fs)) (h6 : B ≤ w.heap.size) : JoOk j A c B w :=
  ⟨by omega, fun p hp => by have := h1 p hp; omega, h3, h4, h5, h6⟩
/-- A copied joint. -/
theorem copied {j : Jo} {A : Option Addr} {c B : Nat} {w w' : World} {v : Value} (hj : JoOk j A c B w) (own : w'.ownsRow w.heap.size 57 5 v j.fs.length (fcsC j.fs)) :
    ∃ A3 c3, v = .slice A3 j.fs.length c3 ∧ JoOk j A3 c3 w'.heap.size w' ∧ (A3 = none → c3 = 0) := by
  obtain ⟨A3, c3, hv3, hn3, _⟩ := own_shape own
  subst hv3
  have hc3 := own_caps own
  obtain ⟨A3', c3', hv3, hR3⟩ := Row.own own
  simp only [Value.slice.injEq, true_and] at hv3
  obtain ⟨rfl, rfl⟩ := hv3
  exact ⟨A3, c3, rfl, ⟨hj.nm, hj.fs, hn3, hc3.1, hR3, Nat.le_refl _⟩, hc3.2.2⟩

theorem isMetR_yes {j : Jo} {face : Int} {sn : ByteArray} {s : Su} {n d : Int} (h : askE j face sn s = 0) (h1 : ptE n d = 0) : isMetR j face sn s n d = ((metV j.thick (faceAt j face) s).has n d, 0) := by unfold isMetR; rw [if_pos h, if_pos h1]
theorem partOfR_yes {j : Jo} {face : Int} {sn : ByteArray} {s : Su} (h : askE j face sn s = 0) : partOfR j face sn s = toldR (metV j.thick (faceAt j face) s) := by unfold partOfR; rw [if_pos h]
theorem toldR_none {p : PV} (h : p.none = true) : toldR p = ⟨0, 0, 0, 0, 12⟩ := by unfold toldR; rw [if_pos h]
theorem toldR_some {p : PV} (h : p.none = false) : toldR p = ⟨p.a, p.b, p.c, p.d, 0⟩ := by unfold toldR; rw [if_neg (by simp [h])]

set_option maxRecDepth 100000 in
set_option maxHeartbeats 8000000 in
theorem coverExactly_any (j : Jo) (A : Option Addr) (c B : Nat) (face : Int) (sn : ByteArray) (s : Su) (n d : Int) (w : World) (hn : j.fs.length ≤ c) (hc : c ≤ 9223372036854775807) (hR : Row w B 5 A j.fs.length (fcsC j.fs)) (hB : B ≤ w.heap.size) (hA : A = none → c = 0) (hw : s.wf) (hnn : I64 n) (hdd : I64 d) (hE : Ends w) :
    Calls Tryz.prog 7 #[.agg (joC j A c), .agg (asC face sn s), .agg #[.int .i64 n, .int .i64 d]] w fun e w' => e = .returned (.bool true) ∧ Below w.heap.size w w' := by
  have hB0 : Below w.heap.size w (((w.alloc (.cells (joC j A c) 24)).alloc (.cells (asC face sn s) 46)).alloc (.cells #[.int .i64 n, .int .i64 d] 49)) := (((Below.refl _ _).alloc (Nat.le_refl _) _).alloc (by simp) _).alloc (by simp; omega) _
  have HE : Hid (∀ W, Below w.heap.size w W → Ends W) := Lib.hid fun W h => hE.below h
  clear hE
  have HA := Lib.hid hA; clear hA
  have b0 := ((Blk.new w 24 (joC j A c)).alloc (.cells (asC face sn s) 46 (0, 0))).alloc (.cells #[.int .i64 n, .int .i64 d] 49 (0, 0))
  have y0 := (Blk.new' (w.alloc (.cells (joC j A c) 24)) 46 (asC face sn s) (g := w.heap.size + 1) (by simp)).alloc (.cells #[.int .i64 n, .int .i64 d] 49 (0, 0))
  have x0 := Blk.new' ((w.alloc (.cells (joC j A c) 24)).alloc (.cells (asC face sn s) 46)) 49 #[.int .i64 n, .int .i64 d] (g := w.heap.size + 1 + 1) (by simp)
  unfold joC asC at *
  go_enter Tryz.func7, Tryz.ntmps7
  go_wp2_with fail
  refine (awake_any _ (HE.out _ hB0)).mono ?_
  rintro e w1 ⟨rfl, hB1⟩
  have b1 := b0.below hB1 b0.lt
  have y1 := y0.below hB1 y0.lt
  have x1 := x0.below hB1 x0.lt
  have hBB := hB0.trans (hB1.mono (Below.size hB0))
  clear hB1 b0 y0 x0 hB0
  have lb := b1.lt
  have ly := y1.lt
  have lx := x1.lt
  obtain ⟨t0, t1, t2, t3⟩ := jo_cells b1
  obtain ⟨u0, u1, u2, u3, u4, u5, u6, u7, u8, u9, u10⟩ := as_cells y1
  go_wp2_with fail
  refine (few_any j A c B _ (hR.below hBB hB) (Nat.le_trans hB (Below.size hBB))).mono ?_
  cases hf : fewB j
  · rintro e w2 ⟨rfl, hB2⟩
    go_wp2
    go_ret
    exact ⟨rfl, hBB.trans (hB2.mono (Below.size hBB))⟩
  · rintro e w2 ⟨rfl, hB2⟩
    have b2 := b1.below hB2 lb
    have y2 := y1.below hB2 ly
    have x2 := x1.below hB2 lx
    have hB2' := hBB.trans (hB2.mono (Below.size hBB))
    clear hB2 b1 y1 x1 hBB t0 t1 t2 t3 u0 u1 u2 u3 u4 u5 u6 u7 u8 u9 u10 lb ly lx
    have lb := b2.lt
    have ly := y2.lt
    have lx := x2.lt
    obtain ⟨t0, t1, t2, t3⟩ := jo_cells b2
    obtain ⟨u0, u1, u2, u3, u4, u5, u6, u7, u8, u9, u10⟩ := as_cells y2
    by_cases q : 20 < sn.size
    · have q1 : (20 : Int) < (sn.size : Int) := by omega
      go_wp2
      go_ret
      exact ⟨rfl, hB2'⟩
    · have q1 : (sn.size : Int) ≤ 20 := by omega
      obtain ⟨f1, f2, f3⟩ := fewB_all hf
      have HJ : Hid (∀ W, Below w.heap.size w W → JoOk j A c B W) := Lib.hid fun W h => JoOk.mk_ f3 f2 hn hc (hR.below h hB) (Nat.le_trans hB (Below.size h))
      have hns : sn.size ≤ 1000000000000 := by omega
      clear f2 f3 hf hR
      go_wp2_with fail
      refine (askErr_any j face sn s A c B _ (HJ.out _ hB2') (by omega) hns hw).mono ?_
      rintro e w3 ⟨rfl, hB3⟩
      have b3 := b2.below hB3 lb
      have y3 := y2.below hB3 ly
      have x3 := x2.below hB3 lx
      have hB3' := hB2'.trans (hB3.mono (Below.size hB2'))
      clear hB3 b2 y2 x2 hB2' t0 t1 t2 t3 u0 u1 u2 u3 u4 u5 u6 u7 u8 u9 u10 lb ly lx
      by_cases h0 : askE j face sn s = 0
      case neg =>
        have h1 : (askE j face sn s != 0) = true := by simpa using h0
        go_wp2
        go_ret
        exact ⟨rfl, hB3'⟩
      have h1 : (askE j face sn s != 0) = false := by simpa using h0
      have lb := b3.lt
      have ly := y3.lt
      have lx := x3.lt
      have i0 := x3.cell 0
      have i1 := x3.cell 1
      simp only [List.getElem?_toArray] at i0 i1
      go_wp2_with fail
      refine (rPointErr_any n d hnn hdd _).mono ?_
      rintro e w4 ⟨rfl, hB4⟩
      have b4 := b3.below hB4 lb
      have y4 := y3.below hB4 ly
      have x4 := x3.below hB4 lx
      have hB4' := hB3'.trans (hB4.mono (Below.size hB3'))
      clear hB4 b3 y3 x3 hB3' lb ly lx i0 i1
      by_cases h2 : ptE n d = 0
      case neg =>
        have h3 : (ptE n d != 0) = true := by simpa using h2
        go_wp2
        go_ret
        exact ⟨rfl, hB4'⟩
      have h3 : (ptE n d != 0) = false := by simpa using h2
      have HM := Lib.hid (isMetR_yes h0 h2)
      have HP := Lib.hid (partOfR_yes h0)
      have HM' : Hid (∀ n d : Int, ptE n d = 0 → isMetR j face sn s n d = ((metV j.thick (faceAt j face) s).has n d, 0)) := Lib.hid fun n d h => isMetR_yes h0 h
      have hg := metV_good (lim_of h0)
      generalize metV j.thick (faceAt j face) s = P at *
      have HG := Lib.hid hg
      have HPt := Lib.hid (ptE_zero h2)
      clear hg h0 h1 h2
      have lb := b4.lt
      have ly := y4.lt
      have lx := x4.lt
      have i0 := x4.cell 0
      have i1 := x4.cell 1
      simp only [List.getElem?_toArray] at i0 i1
      obtain ⟨t0, t1, t2, t3⟩ := jo_cells b4
      obtain ⟨u0, u1, u2, u3, u4, u5, u6, u7, u8, u9, u10⟩ := as_cells y4
      obtain ⟨hv, HV⟩ : ∃ hv, Hid (P.has n d = hv) := ⟨_, Lib.hid rfl⟩
      rw [HV.out] at HM
      go_wp2_with fail
      refine wp_region_w (Gr _) (by kernel_rfl) (Below.refl _ _).drew ?_
      refine wpW_det (t' := ?ct0R20) 0 (by rfl) (by kernel_rfl) (NQ_free _) (by kernel_rfl) ?cw0R20 ?ch0R20 ?ca0R20 (Eq.refl _) ?cH0R20
      case cw0R20 => (go_simp; done)
      case ch0R20 =>
        intro ds w' hS K hK
        have hc := (bcell hS).1
        have hf := (bcell hS).2
        have hz := hS.size
        try simp at hz
        go_simp
        try go_bits
        first
          | exact hK _ hS (Gr.refl _)
          | exact hK _ (by repeat (first | (with_reducible exact Below.refl _ _) | (with_reducible assumption) | ((with_reducible refine Below.setCell ?_ ?_ _); rotate_left; · (first | exact Nat.le_refl _ | (simp; done) | (simp; omega) | omega)) | ((with_reducible refine Below.alloc ?_ ?_ _); rotate_left; · (first | exact Nat.le_refl _ | (simp; done) | (simp; omega) | omega)) | (with_reducible apply Below.drew) | (with_reducible apply below_drewN') | (refine Below.trans ?_ (Below.mono (by assumption) (by first | exact Nat.le_refl _ | (simp; done) | (simp; omega) | omega))) | exact Below.refl _ _ | assumption)) (by repeat (first | (with_reducible exact Below.refl _ _) | (with_reducible assumption) | ((with_reducible refine Below.setCell ?_ ?_ _); rotate_left; · (first | exact Nat.le_refl _ | (simp; done) | (simp; omega) | omega)) | ((with_reducible refine Below.alloc ?_ ?_ _); rotate_left; · (first | exact Nat.le_refl _ | (simp; done) | (simp; omega) | omega)) | (with_reducible apply Below.drew) | (with_reducible apply below_drewN') | (refine Below.trans ?_ (Below.mono (by assumption) (by first | exact Nat.le_refl _ | (simp; done) | (simp; omega) | omega))) | exact Below.refl _ _ | assumption))
      case ca0R20 => (first | (simp [Act.put]; done) | (simp [Act.put, *]; done))
      try dsimp only
      refine wpW_det (t' := ?ct2R20) 2 (by rfl) (by kernel_rfl) (NQ_free _) (by kernel_rfl) ?cw2R20 ?ch2R20 ?ca2R20 (Eq.refl _) ?cH2R20
      case cw2R20 => (go_simp; done)
      case ch2R20 =>
        intro ds w' hS K hK
        have hc := (bcell hS).1
        have hf := (bcell hS).2
        have hz := hS.size
        try simp at hz
        go_simp
        try go_bits
        first
          | exact hK _ hS (Gr.refl _)
          | exact hK _ (by repeat (first | (with_reducible exact Below.refl _ _) | (with_reducible assumption) | ((with_reducible refine Below.setCell ?_ ?_ _); rotate_left; · (first | exact Nat.le_refl _ | (simp; done) | (simp; omega) | omega)) | ((with_reducible refine Below.alloc ?_ ?_ _); rotate_left; · (first | exact Nat.le_refl _ | (simp; done) | (simp; omega) | omega)) | (with_reducible apply Below.drew) | (with_reducible apply below_drewN') | (refine Below.trans ?_ (Below.mono (by assumption) (by first | exact Nat.le_refl _ | (simp; done) | (simp; omega) | omega))) | exact Below.refl _ _ | assumption)) (by repeat (first | (with_reducible exact Below.refl _ _) | (with_reducible assumption) | ((with_reducible refine Below.setCell ?_ ?_ _); rotate_left; · (first | exact Nat.le_refl _ | (simp; done) | (simp; omega) | omega)) | ((with_reducible refine Below.alloc ?_ ?_ _); rotate_left; · (first | exact Nat.le_refl _ | (simp; done) | (simp; omega) | omega)) | (with_reducible apply Below.drew) | (with_reducible apply below_drewN') | (refine Below.trans ?_ (Below.mono (by assumption) (by first | exact Nat.le_refl _ | (simp; done) | (simp; omega) | omega))) | exact Below.refl _ _ | assumption))
      case ca2R20 => (first | (simp [Act.put]; done) | (simp [Act.put, *]; done))
      try dsimp only
      refine wpW_det (t' := ?ct3R20) 3 (by rfl) (by kernel_rfl) (NQ_free _) (by kernel_rfl) ?cw3R20 ?ch3R20 ?ca3R20 (Eq.refl _) ?cH3R20
      case cw3R20 => (go_simp; done)
      case ch3R20 =>
        intro ds w' hS K hK
        have hc := (bcell hS).1
        have hf := (bcell hS).2
        have hz := hS.size
        try simp at hz
        go_simp
        try go_bits
        first
          | exact hK _ hS (Gr.refl _)
          | exact hK _ (by repeat (first | (with_reducible exact Below.refl _ _) | (with_reducible assumption) | ((with_reducible refine Below.setCell ?_ ?_ _); rotate_left; · (first | exact Nat.le_refl _ | (simp; done) | (simp; omega) | omega)) | ((with_reducible refine Below.alloc ?_ ?_ _); rotate_left; · (first | exact Nat.le_refl _ | (simp; done) | (simp; omega) | omega)) | (with_reducible apply Below.drew) | (with_reducible apply below_drewN') | (refine Below.trans ?_ (Below.mono (by assumption) (by first | exact Nat.le_refl _ | (simp; done) | (simp; omega) | omega))) | exact Below.refl _ _ | assumption)) (by repeat (first | (with_reducible exact Below.refl _ _) | (with_reducible assumption) | ((with_reducible refine Below.setCell ?_ ?_ _); rotate_left; · (first | exact Nat.le_refl _ | (simp; done) | (simp; omega) | omega)) | ((with_reducible refine Below.alloc ?_ ?_ _); rotate_left; · (first | exact Nat.le_refl _ | (simp; done) | (simp; omega) | omega)) | (with_reducible apply Below.drew) | (with_reducible apply below_drewN') | (refine Below.trans ?_ (Below.mono (by assumption) (by first | exact Nat.le_refl _ | (simp; done) | (simp; omega) | omega))) | exact Below.refl _ _ | assumption))
      case ca3R20 => (first | (simp [Act.put]; done) | (simp [Act.put, *]; done))
      try dsimp only
      refine wpW_branch [1] (by kernel_rfl) (by simp) ?_
      intro w5 hg_w5 hS_w5
      refine each_cons ?_ each_nil
      refine wpOp_go (by rfl) (Eq.refl _) (by go_simp; done) ?_
      intro K hK
      go_simp
      try simp only [Act.put]
      have hj5 := HJ.out _ (hB4'.trans (Below.mono hS_w5 (Below.size hB4')))
      refine (copyJoint_any j A c B w5 hj5 HA.out (by omega)).mono ?_
      rintro e w6 ⟨v, rfl, own6, hB6⟩
      obtain ⟨A6, c6, rfl, hj6, hA6⟩ := copied hj5 own6
      have hS6 := Below.trans hS_w5 (hB6.mono (Below.size hS_w5))
      refine hK _ _ hS6 ?_
      clear hK K own6 hB6 hS_w5 hg_w5 hj5
      refine wpW_branch [4] (by kernel_rfl) (by simp) ?_
      intro w7 hg_w7 hS_w7
      refine each_cons ?_ each_nil
      refine wpOp_go (by rfl) (Eq.refl _) (by go_simp; done) ?_
      intro K hK
      go_simp
      try simp only [Act.put]
      refine (isMet_any j face sn s n d A6 c6 w6.heap.size w7 (hj6.below hg_w7 (Nat.le_refl _)) (HE.out _ (hB4'.trans (Below.mono hS_w7 (Below.size hB4')))) hns hw hnn hdd).mono ?_
      rw [HM.out]
      rintro e w8 ⟨rfl, hB8⟩
      refine hK _ _ (Below.trans hS_w7 (hB8.mono (Below.size hS_w7))) ?_
      clear hK K hB8 hS_w7 hg_w7 hj6 hA6 hS6
      refine wpW_det (t' := ?ct5R21) 5 (by rfl) (by kernel_rfl) (NQ_free _) (by kernel_rfl) ?cw5R21 ?ch5R21 ?ca5R21 (Eq.refl _) ?cH5R21
      case cw5R21 => (go_simp; done)
      case ch5R21 =>
        intro ds w' hS K hK
        have hc := (bcell hS).1
        have hf := (bcell hS).2
        have hz := hS.size
        try simp at hz
        go_simp
        try go_bits
        first
          | exact hK _ hS (Gr.refl _)
          | exact hK _ (by repeat (first | (with_reducible exact Below.refl _ _) | (with_reducible assumption) | ((with_reducible refine Below.setCell ?_ ?_ _); rotate_left; · (first | exact Nat.le_refl _ | (simp; done) | (simp; omega) | omega)) | ((with_reducible refine Below.alloc ?_ ?_ _); rotate_left; · (first | exact Nat.le_refl _ | (simp; done) | (simp; omega) | omega)) | (with_reducible apply Below.drew) | (with_reducible apply below_drewN') | (refine Below.trans ?_ (Below.mono (by assumption) (by first | exact Nat.le_refl _ | (simp; done) | (simp; omega) | omega))) | exact Below.refl _ _ | assumption)) (by repeat (first | (with_reducible exact Below.refl _ _) | (with_reducible assumption) | ((with_reducible refine Below.setCell ?_ ?_ _); rotate_left; · (first | exact Nat.le_refl _ | (simp; done) | (simp; omega) | omega)) | ((with_reducible refine Below.alloc ?_ ?_ _); rotate_left; · (first | exact Nat.le_refl _ | (simp; done) | (simp; omega) | omega)) | (with_reducible apply Below.drew) | (with_reducible apply below_drewN') | (refine Below.trans ?_ (Below.mono (by assumption) (by first | exact Nat.le_refl _ | (simp; done) | (simp; omega) | omega))) | exact Below.refl _ _ | assumption))
      case ca5R21 => (first | (simp [Act.put]; done) | (simp [Act.put, *]; done))
      try dsimp only
      refine wpW_det (t' := ?ct6R21) 6 (by rfl) (by kernel_rfl) (NQ_free _) (by kernel_rfl) ?cw6R21 ?ch6R21 ?ca6R21 (Eq.refl _) ?cH6R21
      case cw6R21 => (go_simp; done)
      case ch6R21 =>
        intro ds w' hS K hK
        have hc := (bcell hS).1
        have hf := (bcell hS).2
        have hz := hS.size
        try simp at hz
        go_simp
        try go_bits
        first
          | exact hK _ hS (Gr.refl _)
          | exact hK _ (by repeat (first | (with_reducible exact Below.refl _ _) | (with_reducible assumption) | ((with_reducible refine Below.setCell ?_ ?_ _); rotate_left; · (first | exact Nat.le_refl _ | (simp; done) | (simp; omega) | omega)) | ((with_reducible refine Below.alloc ?_ ?_ _); rotate_left; · (first | exact Nat.le_refl _ | (simp; done) | (simp; omega) | omega)) | (with_reducible apply Below.drew) | (with_reducible apply below_drewN') | (refine Below.trans ?_ (Below.mono (by assumption) (by first | exact Nat.le_refl _ | (simp; done) | (simp; omega) | omega))) | exact Below.refl _ _ | assumption)) (by repeat (first | (with_reducible exact Below.refl _ _) | (with_reducible assumption) | ((with_reducible refine Below.setCell ?_ ?_ _); rotate_left; · (first | exact Nat.le_refl _ | (simp; done) | (simp; omega) | omega)) | ((with_reducible refine Below.alloc ?_ ?_ _); rotate_left; · (first | exact Nat.le_refl _ | (simp; done) | (simp; omega) | omega)) | (with_reducible apply Below.drew) | (with_reducible apply below_drewN') | (refine Below.trans ?_ (Below.mono (by assumption) (by first | exact Nat.le_refl _ | (simp; done) | (simp; omega) | omega))) | exact Below.refl _ _ | assumption))
      case ca6R21 => (first | (simp [Act.put]; done) | (simp [Act.put, *]; done))
      try dsimp only
      refine wpW_det (t' := ?ct7R21) 7 (by rfl) (by kernel_rfl) (NQ_free _) (by kernel_rfl) ?cw7R21 ?ch7R21 ?ca7R21 (Eq.refl _) ?cH7R21
      case cw7R21 => (go_simp; done)
      case ch7R21 =>
        intro ds w' hS K hK
        have hc := (bcell hS).1
        have hf := (bcell hS).2
        have hz := hS.size
        try simp at hz
        go_simp
        try go_bits
        first
          | exact hK _ hS (Gr.refl _)
          | exact hK _ (by repeat (first | (with_reducible exact Below.refl _ _) | (with_reducible assumption) | ((with_reducible refine Below.setCell ?_ ?_ _); rotate_left; · (first | exact Nat.le_refl _ | (simp; done) | (simp; omega) | omega)) | ((with_reducible refine Below.alloc ?_ ?_ _); rotate_left; · (first | exact Nat.le_refl _ | (simp; done) | (simp; omega) | omega)) | (with_reducible apply Below.drew) | (with_reducible apply below_drewN') | (refine Below.trans ?_ (Below.mono (by assumption) (by first | exact Nat.le_refl _ | (simp; done) | (simp; omega) | omega))) | exact Below.refl _ _ | assumption)) (by repeat (first | (with_reducible exact Below.refl _ _) | (with_reducible assumption) | ((with_reducible refine Below.setCell ?_ ?_ _); rotate_left; · (first | exact Nat.le_refl _ | (simp; done) | (simp; omega) | omega)) | ((with_reducible refine Below.alloc ?_ ?_ _); rotate_left; · (first | exact Nat.le_refl _ | (simp; done) | (simp; omega) | omega)) | (with_reducible apply Below.drew) | (with_reducible apply below_drewN') | (refine Below.trans ?_ (Below.mono (by assumption) (by first | exact Nat.le_refl _ | (simp; done) | (simp; omega) | omega))) | exact Below.refl _ _ | assumption))
      case ca7R21 => (first | (simp [Act.put]; done) | (simp [Act.put, *]; done))
      try dsimp only
      refine wpW_det (t' := ?ct8R21) 8 (by rfl) (by kernel_rfl) (NQ_free _) (by kernel_rfl) ?cw8R21 ?ch8R21 ?ca8R21 (Eq.refl _) ?cH8R21
      case cw8R21 => (go_simp; done)
      case ch8R21 =>
        intro ds w' hS K hK
        have hc := (bcell hS).1
        have hf := (bcell hS).2
        have hz := hS.size
        try simp at hz
        go_simp
        try go_bits
        first
          | exact hK _ hS (Gr.refl _)
          | exact hK _ (by repeat (first | (with_reducible exact Below.refl _ _) | (with_reducible assumption) | ((with_reducible refine Below.setCell ?_ ?_ _); rotate_left; · (first | exact Nat.le_refl _ | (simp; done) | (simp; omega) | omega)) | ((with_reducible refine Below.alloc ?_ ?_ _); rotate_left; · (first | exact Nat.le_refl _ | (simp; done) | (simp; omega) | omega)) | (with_reducible apply Below.drew) | (with_reducible apply below_drewN') | (refine Below.trans ?_ (Below.mono (by assumption) (by first | exact Nat.le_refl _ | (simp; done) | (simp; omega) | omega))) | exact Below.refl _ _ | assumption)) (by repeat (first | (with_reducible exact Below.refl _ _) | (with_reducible assumption) | ((with_reducible refine Below.setCell ?_ ?_ _); rotate_left; · (first | exact Nat.le_refl _ | (simp; done) | (simp; omega) | omega)) | ((with_reducible refine Below.alloc ?_ ?_ _); rotate_left; · (first | exact Nat.le_refl _ | (simp; done) | (simp; omega) | omega)) | (with_reducible apply Below.drew) | (with_reducible apply below_drewN') | (refine Below.trans ?_ (Below.mono (by assumption) (by first | exact Nat.le_refl _ | (simp; done) | (simp; omega) | omega))) | exact Below.refl _ _ | assumption))
      case ca8R21 => (first | (simp [Act.put]; done) | (simp [Act.put, *]; done))
      try dsimp only
      refine wpW_det (t' := ?ct9R21) 9 (by rfl) (by kernel_rfl) (NQ_free _) (by kernel_rfl) ?cw9R21 ?ch9R21 ?ca9R21 (Eq.refl _) ?cH9R21
      case cw9R21 => (go_simp; done)
      case ch9R21 =>
        intro ds w' hS K hK
        have hc := (bcell hS).1
        have hf := (bcell hS).2
        have hz := hS.size
        try simp at hz
        go_simp
        try go_bits
        first
          | exact hK _ hS (Gr.refl _)
          | exact hK _ (by repeat (first | (with_reducible exact Below.refl _ _) | (with_reducible assumption) | ((with_reducible refine Below.setCell ?_ ?_ _); rotate_left; · (first | exact Nat.le_refl _ | (simp; done) | (simp; omega) | omega)) | ((with_reducible refine Below.alloc ?_ ?_ _); rotate_left; · (first | exact Nat.le_refl _ | (simp; done) | (simp; omega) | omega)) | (with_reducible apply Below.drew) | (with_reducible apply below_drewN') | (refine Below.trans ?_ (Below.mono (by assumption) (by first | exact Nat.le_refl _ | (simp; done) | (simp; omega) | omega))) | exact Below.refl _ _ | assumption)) (by repeat (first | (with_reducible exact Below.refl _ _) | (with_reducible assumption) | ((with_reducible refine Below.setCell ?_ ?_ _); rotate_left; · (first | exact Nat.le_refl _ | (simp; done) | (simp; omega) | omega)) | ((with_reducible refine Below.alloc ?_ ?_ _); rotate_left; · (first | exact Nat.le_refl _ | (simp; done) | (simp; omega) | omega)) | (with_reducible apply Below.drew) | (with_reducible apply below_drewN') | (refine Below.trans ?_ (Below.mono (by assumption) (by first | exact Nat.le_refl _ | (simp; done) | (simp; omega) | omega))) | exact Below.refl _ _ | assumption))
      case ca9R21 => (first | (simp [Act.put]; done) | (simp [Act.put, *]; done))
      try dsimp only
      refine wpW_end (by kernel_rfl) ?_
      intro w9 hg hS
      unfold NQ
      dsimp only
      have b9 := b4.gr hS
      have y9 := y4.gr hS
      have x9 := x4.gr hS
      have hB9 := hB4'.trans (Below.mono hS (Below.size hB4'))
      clear hg hS b4 y4 x4 hB4' t0 t1 t2 t3 u0 u1 u2 u3 u4 u5 u6 u7 u8 u9 u10 i0 i1 lb ly lx HM
      clear h3
      have lb := b9.lt
      have ly := y9.lt
      obtain ⟨t0, t1, t2, t3⟩ := jo_cells b9
      obtain ⟨u0, u1, u2, u3, u4, u5, u6, u7, u8, u9, u10⟩ := as_cells y9
      generalize hr : toldR P = r at *
      go_upto_region 6 with fail
      go_cut [9, 10] (fun s9 s10 wx => ∃ p : Nat, s9 = .pointer (some ⟨p, 0, none⟩) ∧ s10 = .int .i64 r.e ∧ Blk wx p 51 #[.int .i64 r.a, .int .i64 r.b, .int .i64 r.c, .int .i64 r.d] ∧ Below w.heap.size w wx ∧ Below w9.heap.size w9 wx)
      case first =>
        go_wp2_with fail
        refine wp_region_w (Gr _) (by kernel_rfl) (Below.refl _ _).drew ?_
        refine wpW_det (t' := ?ct0R22) 0 (by rfl) (by kernel_rfl) (NQ_free _) (by kernel_rfl) ?cw0R22 ?ch0R22 ?ca0R22 (Eq.refl _) ?cH0R22
        case cw0R22 => (go_simp; done)
        case ch0R22 =>
          intro ds w' hS K hK
          have hc := (bcell hS).1
          have hf := (bcell hS).2
          have hz := hS.size
          try simp at hz
          go_simp
          try go_bits
          first
            | exact hK _ hS (Gr.refl _)
            | exact hK _ (by repeat (first | (with_reducible exact Below.refl _ _) | (with_reducible assumption) | ((with_reducible refine Below.setCell ?_ ?_ _); rotate_left; · (first | exact Nat.le_refl _ | (simp; done) | (simp; omega) | omega)) | ((with_reducible refine Below.alloc ?_ ?_ _); rotate_left; · (first | exact Nat.le_refl _ | (simp; done) | (simp; omega) | omega)) | (with_reducible apply Below.drew) | (with_reducible apply below_drewN') | (refine Below.trans ?_ (Below.mono (by assumption) (by first | exact Nat.le_refl _ | (simp; done) | (simp; omega) | omega))) | exact Below.refl _ _ | assumption)) (by repeat (first | (with_reducible exact Below.refl _ _) | (with_reducible assumption) | ((with_reducible refine Below.setCell ?_ ?_ _); rotate_left; · (first | exact Nat.le_refl _ | (simp; done) | (simp; omega) | omega)) | ((with_reducible refine Below.alloc ?_ ?_ _); rotate_left; · (first | exact Nat.le_refl _ | (simp; done) | (simp; omega) | omega)) | (with_reducible apply Below.drew) | (with_reducible apply below_drewN') | (refine Below.trans ?_ (Below.mono (by assumption) (by first | exact Nat.le_refl _ | (simp; done) | (simp; omega) | omega))) | exact Below.refl _ _ | assumption))
        case ca0R22 => (first | (simp [Act.put]; done) | (simp [Act.put, *]; done))
        try dsimp only
        refine wpW_det (t' := ?ct2R22) 2 (by rfl) (by kernel_rfl) (NQ_free _) (by kernel_rfl) ?cw2R22 ?ch2R22 ?ca2R22 (Eq.refl _) ?cH2R22
        case cw2R22 => (go_simp; done)
        case ch2R22 =>
          intro ds w' hS K hK
          have hc := (bcell hS).1
          have hf := (bcell hS).2
          have hz := hS.size
          try simp at hz
          go_simp
          try go_bits
          first
            | exact hK _ hS (Gr.refl _)
            | exact hK _ (by repeat (first | (with_reducible exact Below.refl _ _) | (with_reducible assumption) | ((with_reducible refine Below.setCell ?_ ?_ _); rotate_left; · (first | exact Nat.le_refl _ | (simp; done) | (simp; omega) | omega)) | ((with_reducible refine Below.alloc ?_ ?_ _); rotate_left; · (first | exact Nat.le_refl _ | (simp; done) | (simp; omega) | omega)) | (with_reducible apply Below.drew) | (with_reducible apply below_drewN') | (refine Below.trans ?_ (Below.mono (by assumption) (by first | exact Nat.le_refl _ | (simp; done) | (simp; omega) | omega))) | exact Below.refl _ _ | assumption)) (by repeat (first | (with_reducible exact Below.refl _ _) | (with_reducible assumption) | ((with_reducible refine Below.setCell ?_ ?_ _); rotate_left; · (first | exact Nat.le_refl _ | (simp; done) | (simp; omega) | omega)) | ((with_reducible refine Below.alloc ?_ ?_ _); rotate_left; · (first | exact Nat.le_refl _ | (simp; done) | (simp; omega) | omega)) | (with_reducible apply Below.drew) | (with_reducible apply below_drewN') | (refine Below.trans ?_ (Below.mono (by assumption) (by first | exact Nat.le_refl _ | (simp; done) | (simp; omega) | omega))) | exact Below.refl _ _ | assumption))
        case ca2R22 => (first | (simp [Act.put]; done) | (simp [Act.put, *]; done))
        try dsimp only
        refine wpW_branch [1, 7] (by kernel_rfl) (by simp) ?_
        intro w1 hg1 hS1
        try have z := Blk.gr z hg1
        try have hj6 := hj6.below hg1 hj6.base
        try (have zz := blk4 z; obtain ⟨z0, z1, z2, z3, zf⟩ := zz)
        try have lz := z.lt
        refine each_cons ?_ (each_cons ?_ (each_nil))
        · refine wpOp_go (by rfl) (Eq.refl _) (by go_simp; done) ?_
          intro K hK
          go_simp
          try simp only [Act.put]
          have hj5 := HJ.out _ (hB9.trans (Below.mono hS1 (Below.size hB9)))
          refine (copyJoint_any j A c B _ hj5 HA.out (by omega)).mono ?_
          rintro e w6 ⟨v, rfl, own6, hB6⟩
          obtain ⟨A6, c6, rfl, hj6, hA6⟩ := copied hj5 own6
          try have z := Blk.gr z hB6
          refine hK _ _ (Below.trans hS1 (hB6.mono (Below.size hS1))) ?_
          clear hK K own6 hj5
          refine wpW_branch [3, 7] (by kernel_rfl) (by simp) ?_
          intro w2 hg2 hS2
          try have z := Blk.gr z hg2
          try have hj6 := hj6.below hg2 hj6.base
          try (have zz := blk4 z; obtain ⟨z0, z1, z2, z3, zf⟩ := zz)
          try have lz := z.lt
          refine each_cons ?_ (each_cons ?_ (each_nil))
          · refine wpOp_go (by rfl) (Eq.refl _) (by go_simp; done) ?_
            intro K hK
            go_simp
            try simp only [Act.put]
            refine (partOf_any j face sn s A6 c6 w6.heap.size _ hj6 (HE.out _ (hB9.trans (Below.mono hS2 (Below.size hB9)))) hns hw).mono ?_
            rw [HP.out]
            unfold prC
            rintro e w8 ⟨rfl, hB8⟩
            try have z := Blk.gr z hB8
            refine hK _ _ (Below.trans hS2 (hB8.mono (Below.size hS2))) ?_
            clear hK K
            refine wpW_det (t' := ?ct4R23) 4 (by rfl) (by kernel_rfl) (NQ_free _) (by kernel_rfl) ?cw4R23 ?ch4R23 ?ca4R23 (Eq.refl _) ?cH4R23
            case cw4R23 => (go_simp; done)
            case ch4R23 =>
              intro ds w' hS K hK
              have hc := (bcell hS).1
              have hf := (bcell hS).2
              have hz := hS.size
              try simp at hz
              go_simp
              try go_bits
              first
                | exact hK _ hS (Gr.refl _)
                | exact hK _ (by repeat (first | (with_reducible exact Below.refl _ _) | (with_reducible assumption) | ((with_reducible refine Below.setCell ?_ ?_ _); rotate_left; · (first | exact Nat.le_refl _ | (simp; done) | (simp; omega) | omega)) | ((with_reducible refine Below.alloc ?_ ?_ _); rotate_left; · (first | exact Nat.le_refl _ | (simp; done) | (simp; omega) | omega)) | (with_reducible apply Below.drew) | (with_reducible apply below_drewN') | (refine Below.trans ?_ (Below.mono (by assumption) (by first | exact Nat.le_refl _ | (simp; done) | (simp; omega) | omega))) | exact Below.refl _ _ | assumption)) (by repeat (first | (with_reducible exact Below.refl _ _) | (with_reducible assumption) | ((with_reducible refine Below.setCell ?_ ?_ _); rotate_left; · (first | exact Nat.le_refl _ | (simp; done) | (simp; omega) | omega)) | ((with_reducible refine Below.alloc ?_ ?_ _); rotate_left; · (first | exact Nat.le_refl _ | (simp; done) | (simp; omega) | omega)) | (with_reducible apply Below.drew) | (with_reducible apply below_drewN') | (refine Below.trans ?_ (Below.mono (by assumption) (by first | exact Nat.le_refl _ | (simp; done) | (simp; omega) | omega))) | exact Below.refl _ _ | assumption))
            case ca4R23 => (first | (simp [Act.put]; done) | (simp [Act.put, *]; done))
            try dsimp only
            refine wpW_det (t' := ?ct5R23) 5 (by rfl) (by kernel_rfl) (NQ_free _) (by kernel_rfl) ?cw5R23 ?ch5R23 ?ca5R23 (Eq.refl _) ?cH5R23
            case cw5R23 => (go_simp; done)
            case ch5R23 =>
              intro ds w' hS K hK
              have hc := (bcell hS).1
              have hf := (bcell hS).2
              have hz := hS.size
              try simp at hz
              go_simp
              try go_bits
              first
                | exact hK _ hS (Gr.refl _)
                | exact hK _ (by repeat (first | (with_reducible exact Below.refl _ _) | (with_reducible assumption) | ((with_reducible refine Below.setCell ?_ ?_ _); rotate_left; · (first | exact Nat.le_refl _ | (simp; done) | (simp; omega) | omega)) | ((with_reducible refine Below.alloc ?_ ?_ _); rotate_left; · (first | exact Nat.le_refl _ | (simp; done) | (simp; omega) | omega)) | (with_reducible apply Below.drew) | (with_reducible apply below_drewN') | (refine Below.trans ?_ (Below.mono (by assumption) (by first | exact Nat.le_refl _ | (simp; done) | (simp; omega) | omega))) | exact Below.refl _ _ | assumption)) (by repeat (first | (with_reducible exact Below.refl _ _) | (with_reducible assumption) | ((with_reducible refine Below.setCell ?_ ?_ _); rotate_left; · (first | exact Nat.le_refl _ | (simp; done) | (simp; omega) | omega)) | ((with_reducible refine Below.alloc ?_ ?_ _); rotate_left; · (first | exact Nat.le_refl _ | (simp; done) | (simp; omega) | omega)) | (with_reducible apply Below.drew) | (with_reducible apply below_drewN') | (refine Below.trans ?_ (Below.mono (by assumption) (by first | exact Nat.le_refl _ | (simp; done) | (simp; omega) | omega))) | exact Below.refl _ _ | assumption))
            case ca5R23 => (first | (simp [Act.put]; done) | (simp [Act.put, *]; done))
            try dsimp only
            refine wpW_det (t' := ?ct6R23) 6 (by rfl) (by kernel_rfl) (NQ_free _) (by kernel_rfl) ?cw6R23 ?ch6R23 ?ca6R23 (Eq.refl _) ?cH6R23
            case cw6R23 => (go_simp; done)
            case ch6R23 =>
              intro ds w' hS K hK
              have hc := (bcell hS).1
              have hf := (bcell hS).2
              have hz := hS.size
              try simp at hz
              go_simp
              try go_bits
              first
                | exact hK _ hS (Gr.refl _)
                | exact hK _ (by repeat (first | (with_reducible exact Below.refl _ _) | (with_reducible assumption) | ((with_reducible refine Below.setCell ?_ ?_ _); rotate_left; · (first | exact Nat.le_refl _ | (simp; done) | (simp; omega) | omega)) | ((with_reducible refine Below.alloc ?_ ?_ _); rotate_left; · (first | exact Nat.le_refl _ | (simp; done) | (simp; omega) | omega)) | (with_reducible apply Below.drew) | (with_reducible apply below_drewN') | (refine Below.trans ?_ (Below.mono (by assumption) (by first | exact Nat.le_refl _ | (simp; done) | (simp; omega) | omega))) | exact Below.refl _ _ | assumption)) (by repeat (first | (with_reducible exact Below.refl _ _) | (with_reducible assumption) | ((with_reducible refine Below.setCell ?_ ?_ _); rotate_left; · (first | exact Nat.le_refl _ | (simp; done) | (simp; omega) | omega)) | ((with_reducible refine Below.alloc ?_ ?_ _); rotate_left; · (first | exact Nat.le_refl _ | (simp; done) | (simp; omega) | omega)) | (with_reducible apply Below.drew) | (with_reducible apply below_drewN') | (refine Below.trans ?_ (Below.mono (by assumption) (by first | exact Nat.le_refl _ | (simp; done) | (simp; omega) | omega))) | exact Below.refl _ _ | assumption))
            case ca6R23 => (first | (simp [Act.put]; done) | (simp [Act.put, *]; done))
            try dsimp only
            refine wpW_branch [7] (by kernel_rfl) (by simp) ?_
            intro w3 hg3 hS3
            try have z := Blk.gr z hg3
            try have hj6 := hj6.below hg3 hj6.base
            try (have zz := blk4 z; obtain ⟨z0, z1, z2, z3, zf⟩ := zz)
            try have lz := z.lt
            refine each_cons ?_ (each_nil)
            · refine wpOp_go (by rfl) (Eq.refl _) (by go_simp; done) ?_
              intro K hK
              go_simp
              try simp only [Act.put]
              have z := Blk.new w3 51 #[.int .i64 0, .int .i64 0, .int .i64 0, .int .i64 0]
              have hzp := Below.size hS3
              try have hj6 := hj6.below ((Below.refl w3.heap.size w3).alloc (Nat.le_refl _) (.cells #[.int .i64 0, .int .i64 0, .int .i64 0, .int .i64 0] 51 (0, 0))) hj6.base
              refine hK _ _ (Below.alloc hS3 (Below.size hS3) _) ?_
              clear hK K
              refine wpW_branch [8] (by kernel_rfl) (by simp) ?_
              intro w4 hg4 hS4
              try have z := Blk.gr z hg4
              try have hj6 := hj6.below hg4 hj6.base
              try (have zz := blk4 z; obtain ⟨z0, z1, z2, z3, zf⟩ := zz)
              try have lz := z.lt
              refine each_cons ?_ (each_nil)
              · refine wpOp_go (by rfl) (Eq.refl _) (by go_simp; done) ?_
                intro K hK
                go_simp
                try simp only [Act.put]
                have z := Blk.set4 z (.int .i64 r.a) (.int .i64 r.b) (.int .i64 r.c) (.int .i64 r.d)
                refine hK _ _ (Below.set4 hS4 hzp) ?_
                clear hK K z0 z1 z2 z3 zf
                refine wpW_det (t' := ?ct9R24) 9 (by rfl) (by kernel_rfl) (NQ_free _) (by kernel_rfl) ?cw9R24 ?ch9R24 ?ca9R24 (Eq.refl _) ?cH9R24
                case cw9R24 => (go_simp; done)
                case ch9R24 =>
                  intro ds w' hS K hK
                  have hc := (bcell hS).1
                  have hf := (bcell hS).2
                  have hz := hS.size
                  try simp at hz
                  go_simp
                  try go_bits
                  first
                    | exact hK _ hS (Gr.refl _)
                    | exact hK _ (by repeat (first | (with_reducible exact Below.refl _ _) | (with_reducible assumption) | ((with_reducible refine Below.setCell ?_ ?_ _); rotate_left; · (first | exact Nat.le_refl _ | (simp; done) | (simp; omega) | omega)) | ((with_reducible refine Below.alloc ?_ ?_ _); rotate_left; · (first | exact Nat.le_refl _ | (simp; done) | (simp; omega) | omega)) | (with_reducible apply Below.drew) | (with_reducible apply below_drewN') | (refine Below.trans ?_ (Below.mono (by assumption) (by first | exact Nat.le_refl _ | (simp; done) | (simp; omega) | omega))) | exact Below.refl _ _ | assumption)) (by repeat (first | (with_reducible exact Below.refl _ _) | (with_reducible assumption) | ((with_reducible refine Below.setCell ?_ ?_ _); rotate_left; · (first | exact Nat.le_refl _ | (simp; done) | (simp; omega) | omega)) | ((with_reducible refine Below.alloc ?_ ?_ _); rotate_left; · (first | exact Nat.le_refl _ | (simp; done) | (simp; omega) | omega)) | (with_reducible apply Below.drew) | (with_reducible apply below_drewN') | (refine Below.trans ?_ (Below.mono (by assumption) (by first | exact Nat.le_refl _ | (simp; done) | (simp; omega) | omega))) | exact Below.refl _ _ | assumption))
                case ca9R24 => (first | (simp [Act.put]; done) | (simp [Act.put, *]; done))
                try dsimp only
                refine wpW_end (by kernel_rfl) ?_
                intro wE hg hS
                unfold NQ
                dsimp only
                have z := z.gr hg
                go_wp2_with fail
                go_meet
                exact ⟨_, rfl, rfl, z, hB9.trans (Below.mono hS (Below.size hB9)), hS⟩
          · refine wpOp_go (by rfl) (Eq.refl _) (by go_simp; done) ?_
            intro K hK
            go_simp
            try simp only [Act.put]
            have z := Blk.new w2 51 #[.int .i64 0, .int .i64 0, .int .i64 0, .int .i64 0]
            have hzp := Below.size hS2
            try have hj6 := hj6.below ((Below.refl w2.heap.size w2).alloc (Nat.le_refl _) (.cells #[.int .i64 0, .int .i64 0, .int .i64 0, .int .i64 0] 51 (0, 0))) hj6.base
            refine hK _ _ (Below.alloc hS2 (Below.size hS2) _) ?_
            clear hK K
            refine wpW_branch [3] (by kernel_rfl) (by simp) ?_
            intro w3 hg3 hS3
            try have z := Blk.gr z hg3
            try have hj6 := hj6.below hg3 hj6.base
            try (have zz := blk4 z; obtain ⟨z0, z1, z2, z3, zf⟩ := zz)
            try have lz := z.lt
            refine each_cons ?_ (each_nil)
            · refine wpOp_go (by rfl) (Eq.refl _) (by go_simp; done) ?_
              intro K hK
              go_simp
              try simp only [Act.put]
              refine (partOf_any j face sn s A6 c6 w6.heap.size _ hj6 (HE.out _ (hB9.trans (Below.mono hS3 (Below.size hB9)))) hns hw).mono ?_
              rw [HP.out]
              unfold prC
              rintro e w8 ⟨rfl, hB8⟩
              try have z := Blk.gr z hB8
              refine hK _ _ (Below.trans hS3 (hB8.mono (Below.size hS3))) ?_
              clear hK K
              refine wpW_det (t' := ?ct4R25) 4 (by rfl) (by kernel_rfl) (NQ_free _) (by kernel_rfl) ?cw4R25 ?ch4R25 ?ca4R25 (Eq.refl _) ?cH4R25
              case cw4R25 => (go_simp; done)
              case ch4R25 =>
                intro ds w' hS K hK
                have hc := (bcell hS).1
                have hf := (bcell hS).2
                have hz := hS.size
                try simp at hz
                go_simp
                try go_bits
                first
                  | exact hK _ hS (Gr.refl _)
                  | exact hK _ (by repeat (first | (with_reducible exact Below.refl _ _) | (with_reducible assumption) | ((with_reducible refine Below.setCell ?_ ?_ _); rotate_left; · (first | exact Nat.le_refl _ | (simp; done) | (simp; omega) | omega)) | ((with_reducible refine Below.alloc ?_ ?_ _); rotate_left; · (first | exact Nat.le_refl _ | (simp; done) | (simp; omega) | omega)) | (with_reducible apply Below.drew) | (with_reducible apply below_drewN') | (refine Below.trans ?_ (Below.mono (by assumption) (by first | exact Nat.le_refl _ | (simp; done) | (simp; omega) | omega))) | exact Below.refl _ _ | assumption)) (by repeat (first | (with_reducible exact Below.refl _ _) | (with_reducible assumption) | ((with_reducible refine Below.setCell ?_ ?_ _); rotate_left; · (first | exact Nat.le_refl _ | (simp; done) | (simp; omega) | omega)) | ((with_reducible refine Below.alloc ?_ ?_ _); rotate_left; · (first | exact Nat.le_refl _ | (simp; done) | (simp; omega) | omega)) | (with_reducible apply Below.drew) | (with_reducible apply below_drewN') | (refine Below.trans ?_ (Below.mono (by assumption) (by first | exact Nat.le_refl _ | (simp; done) | (simp; omega) | omega))) | exact Below.refl _ _ | assumption))
              case ca4R25 => (first | (simp [Act.put]; done) | (simp [Act.put, *]; done))
              try dsimp only
              refine wpW_det (t' := ?ct5R25) 5 (by rfl) (by kernel_rfl) (NQ_free _) (by kernel_rfl) ?cw5R25 ?ch5R25 ?ca5R25 (Eq.refl _) ?cH5R25
              case cw5R25 => (go_simp; done)
              case ch5R25 =>
                intro ds w' hS K hK
                have hc := (bcell hS).1
                have hf := (bcell hS).2
                have hz := hS.size
                try simp at hz
                go_simp
                try go_bits
                first
                  | exact hK _ hS (Gr.refl _)
                  | exact hK _ (by repeat (first | (with_reducible exact Below.refl _ _) | (with_reducible assumption) | ((with_reducible refine Below.setCell ?_ ?_ _); rotate_left; · (first | exact Nat.le_refl _ | (simp; done) | (simp; omega) | omega)) | ((with_reducible refine Below.alloc ?_ ?_ _); rotate_left; · (first | exact Nat.le_refl _ | (simp; done) | (simp; omega) | omega)) | (with_reducible apply Below.drew) | (with_reducible apply below_drewN') | (refine Below.trans ?_ (Below.mono (by assumption) (by first | exact Nat.le_refl _ | (simp; done) | (simp; omega) | omega))) | exact Below.refl _ _ | assumption)) (by repeat (first | (with_reducible exact Below.refl _ _) | (with_reducible assumption) | ((with_reducible refine Below.setCell ?_ ?_ _); rotate_left; · (first | exact Nat.le_refl _ | (simp; done) | (simp; omega) | omega)) | ((with_reducible refine Below.alloc ?_ ?_ _); rotate_left; · (first | exact Nat.le_refl _ | (simp; done) | (simp; omega) | omega)) | (with_reducible apply Below.drew) | (with_reducible apply below_drewN') | (refine Below.trans ?_ (Below.mono (by assumption) (by first | exact Nat.le_refl _ | (simp; done) | (simp; omega) | omega))) | exact Below.refl _ _ | assumption))
              case ca5R25 => (first | (simp [Act.put]; done) | (simp [Act.put, *]; done))
              try dsimp only
              refine wpW_det (t' := ?ct6R25) 6 (by rfl) (by kernel_rfl) (NQ_free _) (by kernel_rfl) ?cw6R25 ?ch6R25 ?ca6R25 (Eq.refl _) ?cH6R25
              case cw6R25 => (go_simp; done)
              case ch6R25 =>
                intro ds w' hS K hK
                have hc := (bcell hS).1
                have hf := (bcell hS).2
                have hz := hS.size
                try simp at hz
                go_simp
                try go_bits
                first
                  | exact hK _ hS (Gr.refl _)
                  | exact hK _ (by repeat (first | (with_reducible exact Below.refl _ _) | (with_reducible assumption) | ((with_reducible refine Below.setCell ?_ ?_ _); rotate_left; · (first | exact Nat.le_refl _ | (simp; done) | (simp; omega) | omega)) | ((with_reducible refine Below.alloc ?_ ?_ _); rotate_left; · (first | exact Nat.le_refl _ | (simp; done) | (simp; omega) | omega)) | (with_reducible apply Below.drew) | (with_reducible apply below_drewN') | (refine Below.trans ?_ (Below.mono (by assumption) (by first | exact Nat.le_refl _ | (simp; done) | (simp; omega) | omega))) | exact Below.refl _ _ | assumption)) (by repeat (first | (with_reducible exact Below.refl _ _) | (with_reducible assumption) | ((with_reducible refine Below.setCell ?_ ?_ _); rotate_left; · (first | exact Nat.le_refl _ | (simp; done) | (simp; omega) | omega)) | ((with_reducible refine Below.alloc ?_ ?_ _); rotate_left; · (first | exact Nat.le_refl _ | (simp; done) | (simp; omega) | omega)) | (with_reducible apply Below.drew) | (with_reducible apply below_drewN') | (refine Below.trans ?_ (Below.mono (by assumption) (by first | exact Nat.le_refl _ | (simp; done) | (simp; omega) | omega))) | exact Below.refl _ _ | assumption))
              case ca6R25 => (first | (simp [Act.put]; done) | (simp [Act.put, *]; done))
              try dsimp only
              refine wpW_branch [8] (by kernel_rfl) (by simp) ?_
              intro w4 hg4 hS4
              try have z := Blk.gr z hg4
              try have hj6 := hj6.below hg4 hj6.base
              try (have zz := blk4 z; obtain ⟨z0, z1, z2, z3, zf⟩ := zz)
              try have lz := z.lt
              refine each_cons ?_ (each_nil)
              · refine wpOp_go (by rfl) (Eq.refl _) (by go_simp; done) ?_
                intro K hK
                go_simp
                try simp only [Act.put]
                have z := Blk.set4 z (.int .i64 r.a) (.int .i64 r.b) (.int .i64 r.c) (.int .i64 r.d)
                refine hK _ _ (Below.set4 hS4 hzp) ?_
                clear hK K z0 z1 z2 z3 zf
                refine wpW_det (t' := ?ct9R26) 9 (by rfl) (by kernel_rfl) (NQ_free _) (by kernel_rfl) ?cw9R26 ?ch9R26 ?ca9R26 (Eq.refl _) ?cH9R26
                case cw9R26 => (go_simp; done)
                case ch9R26 =>
                  intro ds w' hS K hK
                  have hc := (bcell hS).1
                  have hf := (bcell hS).2
                  have hz := hS.size
                  try simp at hz
                  go_simp
                  try go_bits
                  first
                    | exact hK _ hS (Gr.refl _)
                    | exact hK _ (by repeat (first | (with_reducible exact Below.refl _ _) | (with_reducible assumption) | ((with_reducible refine Below.setCell ?_ ?_ _); rotate_left; · (first | exact Nat.le_refl _ | (simp; done) | (simp; omega) | omega)) | ((with_reducible refine Below.alloc ?_ ?_ _); rotate_left; · (first | exact Nat.le_refl _ | (simp; done) | (simp; omega) | omega)) | (with_reducible apply Below.drew) | (with_reducible apply below_drewN') | (refine Below.trans ?_ (Below.mono (by assumption) (by first | exact Nat.le_refl _ | (simp; done) | (simp; omega) | omega))) | exact Below.refl _ _ | assumption)) (by repeat (first | (with_reducible exact Below.refl _ _) | (with_reducible assumption) | ((with_reducible refine Below.setCell ?_ ?_ _); rotate_left; · (first | exact Nat.le_refl _ | (simp; done) | (simp; omega) | omega)) | ((with_reducible refine Below.alloc ?_ ?_ _); rotate_left; · (first | exact Nat.le_refl _ | (simp; done) | (simp; omega) | omega)) | (with_reducible apply Below.drew) | (with_reducible apply below_drewN') | (refine Below.trans ?_ (Below.mono (by assumption) (by first | exact Nat.le_refl _ | (simp; done) | (simp; omega) | omega))) | exact Below.refl _ _ | assumption))
                case ca9R26 => (first | (simp [Act.put]; done) | (simp [Act.put, *]; done))
                try dsimp only
                refine wpW_end (by kernel_rfl) ?_
                intro wE hg hS
                unfold NQ
                dsimp only
                have z := z.gr hg
                go_wp2_with fail
                go_meet
                exact ⟨_, rfl, rfl, z, hB9.trans (Below.mono hS (Below.size hB9)), hS⟩
        · refine wpOp_go (by rfl) (Eq.refl _) (by go_simp; done) ?_
          intro K hK
          go_simp
          try simp only [Act.put]
          have z := Blk.new w1 51 #[.int .i64 0, .int .i64 0, .int .i64 0, .int .i64 0]
          have hzp := Below.size hS1
          try have hj6 := hj6.below ((Below.refl w1.heap.size w1).alloc (Nat.le_refl _) (.cells #[.int .i64 0, .int .i64 0, .int .i64 0, .int .i64 0] 51 (0, 0))) hj6.base
          refine hK _ _ (Below.alloc hS1 (Below.size hS1) _) ?_
          clear hK K
          refine wpW_branch [1] (by kernel_rfl) (by simp) ?_
          intro w2 hg2 hS2
          try have z := Blk.gr z hg2
          try have hj6 := hj6.below hg2 hj6.base
          try (have zz := blk4 z; obtain ⟨z0, z1, z2, z3, zf⟩ := zz)
          try have lz := z.lt
          refine each_cons ?_ (each_nil)
          · refine wpOp_go (by rfl) (Eq.refl _) (by go_simp; done) ?_
            intro K hK
            go_simp
            try simp only [Act.put]
            have hj5 := HJ.out _ (hB9.trans (Below.mono hS2 (Below.size hB9)))
            refine (copyJoint_any j A c B _ hj5 HA.out (by omega)).mono ?_
            rintro e w6 ⟨v, rfl, own6, hB6⟩
            obtain ⟨A6, c6, rfl, hj6, hA6⟩ := copied hj5 own6
            try have z := Blk.gr z hB6
            refine hK _ _ (Below.trans hS2 (hB6.mono (Below.size hS2))) ?_
            clear hK K own6 hj5
            refine wpW_branch [3] (by kernel_rfl) (by simp) ?_
            intro w3 hg3 hS3
            try have z := Blk.gr z hg3
            try have hj6 := hj6.below hg3 hj6.base
            try (have zz := blk4 z; obtain ⟨z0, z1, z2, z3, zf⟩ := zz)
            try have lz := z.lt
            refine each_cons ?_ (each_nil)
            · refine wpOp_go (by rfl) (Eq.refl _) (by go_simp; done) ?_
              intro K hK
              go_simp
              try simp only [Act.put]
              refine (partOf_any j face sn s A6 c6 w6.heap.size _ hj6 (HE.out _ (hB9.trans (Below.mono hS3 (Below.size hB9)))) hns hw).mono ?_
              rw [HP.out]
              unfold prC
              rintro e w8 ⟨rfl, hB8⟩
              try have z := Blk.gr z hB8
              refine hK _ _ (Below.trans hS3 (hB8.mono (Below.size hS3))) ?_
              clear hK K
              refine wpW_det (t' := ?ct4R27) 4 (by rfl) (by kernel_rfl) (NQ_free _) (by kernel_rfl) ?cw4R27 ?ch4R27 ?ca4R27 (Eq.refl _) ?cH4R27
              case cw4R27 => (go_simp; done)
              case ch4R27 =>
                intro ds w' hS K hK
                have hc := (bcell hS).1
                have hf := (bcell hS).2
                have hz := hS.size
                try simp at hz
                go_simp
                try go_bits
                first
                  | exact hK _ hS (Gr.refl _)
                  | exact hK _ (by repeat (first | (with_reducible exact Below.refl _ _) | (with_reducible assumption) | ((with_reducible refine Below.setCell ?_ ?_ _); rotate_left; · (first | exact Nat.le_refl _ | (simp; done) | (simp; omega) | omega)) | ((with_reducible refine Below.alloc ?_ ?_ _); rotate_left; · (first | exact Nat.le_refl _ | (simp; done) | (simp; omega) | omega)) | (with_reducible apply Below.drew) | (with_reducible apply below_drewN') | (refine Below.trans ?_ (Below.mono (by assumption) (by first | exact Nat.le_refl _ | (simp; done) | (simp; omega) | omega))) | exact Below.refl _ _ | assumption)) (by repeat (first | (with_reducible exact Below.refl _ _) | (with_reducible assumption) | ((with_reducible refine Below.setCell ?_ ?_ _); rotate_left; · (first | exact Nat.le_refl _ | (simp; done) | (simp; omega) | omega)) | ((with_reducible refine Below.alloc ?_ ?_ _); rotate_left; · (first | exact Nat.le_refl _ | (simp; done) | (simp; omega) | omega)) | (with_reducible apply Below.drew) | (with_reducible apply below_drewN') | (refine Below.trans ?_ (Below.mono (by assumption) (by first | exact Nat.le_refl _ | (simp; done) | (simp; omega) | omega))) | exact Below.refl _ _ | assumption))
              case ca4R27 => (first | (simp [Act.put]; done) | (simp [Act.put, *]; done))
              try dsimp only
              refine wpW_det (t' := ?ct5R27) 5 (by rfl) (by kernel_rfl) (NQ_free _) (by kernel_rfl) ?cw5R27 ?ch5R27 ?ca5R27 (Eq.refl _) ?cH5R27
              case cw5R27 => (go_simp; done)
              case ch5R27 =>
                intro ds w' hS K hK
                have hc := (bcell hS).1
                have hf := (bcell hS).2
                have hz := hS.size
                try simp at hz
                go_simp
                try go_bits
                first
                  | exact hK _ hS (Gr.refl _)
                  | exact hK _ (by repeat (first | (with_reducible exact Below.refl _ _) | (with_reducible assumption) | ((with_reducible refine Below.setCell ?_ ?_ _); rotate_left; · (first | exact Nat.le_refl _ | (simp; done) | (simp; omega) | omega)) | ((with_reducible refine Below.alloc ?_ ?_ _); rotate_left; · (first | exact Nat.le_refl _ | (simp; done) | (simp; omega) | omega)) | (with_reducible apply Below.drew) | (with_reducible apply below_drewN') | (refine Below.trans ?_ (Below.mono (by assumption) (by first | exact Nat.le_refl _ | (simp; done) | (simp; omega) | omega))) | exact Below.refl _ _ | assumption)) (by repeat (first | (with_reducible exact Below.refl _ _) | (with_reducible assumption) | ((with_reducible refine Below.setCell ?_ ?_ _); rotate_left; · (first | exact Nat.le_refl _ | (simp; done) | (simp; omega) | omega)) | ((with_reducible refine Below.alloc ?_ ?_ _); rotate_left; · (first | exact Nat.le_refl _ | (simp; done) | (simp; omega) | omega)) | (with_reducible apply Below.drew) | (with_reducible apply below_drewN') | (refine Below.trans ?_ (Below.mono (by assumption) (by first | exact Nat.le_refl _ | (simp; done) | (simp; omega) | omega))) | exact Below.refl _ _ | assumption))
              case ca5R27 => (first | (simp [Act.put]; done) | (simp [Act.put, *]; done))
              try dsimp only
              refine wpW_det (t' := ?ct6R27) 6 (by rfl) (by kernel_rfl) (NQ_free _) (by kernel_rfl) ?cw6R27 ?ch6R27 ?ca6R27 (Eq.refl _) ?cH6R27
              case cw6R27 => (go_simp; done)
              case ch6R27 =>
                intro ds w' hS K hK
                have hc := (bcell hS).1
                have hf := (bcell hS).2
                have hz := hS.size
                try simp at hz
                go_simp
                try go_bits
                first
                  | exact hK _ hS (Gr.refl _)
                  | exact hK _ (by repeat (first | (with_reducible exact Below.refl _ _) | (with_reducible assumption) | ((with_reducible refine Below.setCell ?_ ?_ _); rotate_left; · (first | exact Nat.le_refl _ | (simp; done) | (simp; omega) | omega)) | ((with_reducible refine Below.alloc ?_ ?_ _); rotate_left; · (first | exact Nat.le_refl _ | (simp; done) | (simp; omega) | omega)) | (with_reducible apply Below.drew) | (with_reducible apply below_drewN') | (refine Below.trans ?_ (Below.mono (by assumption) (by first | exact Nat.le_refl _ | (simp; done) | (simp; omega) | omega))) | exact Below.refl _ _ | assumption)) (by repeat (first | (with_reducible exact Below.refl _ _) | (with_reducible assumption) | ((with_reducible refine Below.setCell ?_ ?_ _); rotate_left; · (first | exact Nat.le_refl _ | (simp; done) | (simp; omega) | omega)) | ((with_reducible refine Below.alloc ?_ ?_ _); rotate_left; · (first | exact Nat.le_refl _ | (simp; done) | (simp; omega) | omega)) | (with_reducible apply Below.drew) | (with_reducible apply below_drewN') | (refine Below.trans ?_ (Below.mono (by assumption) (by first | exact Nat.le_refl _ | (simp; done) | (simp; omega) | omega))) | exact Below.refl _ _ | assumption))
              case ca6R27 => (first | (simp [Act.put]; done) | (simp [Act.put, *]; done))
              try dsimp only
              refine wpW_branch [8] (by kernel_rfl) (by simp) ?_
              intro w4 hg4 hS4
              try have z := Blk.gr z hg4
              try have hj6 := hj6.below hg4 hj6.base
              try (have zz := blk4 z; obtain ⟨z0, z1, z2, z3, zf⟩ := zz)
              try have lz := z.lt
              refine each_cons ?_ (each_nil)
              · refine wpOp_go (by rfl) (Eq.refl _) (by go_simp; done) ?_
                intro K hK
                go_simp
                try simp only [Act.put]
                have z := Blk.set4 z (.int .i64 r.a) (.int .i64 r.b) (.int .i64 r.c) (.int .i64 r.d)
                refine hK _ _ (Below.set4 hS4 hzp) ?_
                clear hK K z0 z1 z2 z3 zf
                refine wpW_det (t' := ?ct9R28) 9 (by rfl) (by kernel_rfl) (NQ_free _) (by kernel_rfl) ?cw9R28 ?ch9R28 ?ca9R28 (Eq.refl _) ?cH9R28
                case cw9R28 => (go_simp; done)
                case ch9R28 =>
                  intro ds w' hS K hK
                  have hc := (bcell hS).1
                  have hf := (bcell hS).2
                  have hz := hS.size
                  try simp at hz
                  go_simp
                  try go_bits
                  first
                    | exact hK _ hS (Gr.refl _)
                    | exact hK _ (by repeat (first | (with_reducible exact Below.refl _ _) | (with_reducible assumption) | ((with_reducible refine Below.setCell ?_ ?_ _); rotate_left; · (first | exact Nat.le_refl _ | (simp; done) | (simp; omega) | omega)) | ((with_reducible refine Below.alloc ?_ ?_ _); rotate_left; · (first | exact Nat.le_refl _ | (simp; done) | (simp; omega) | omega)) | (with_reducible apply Below.drew) | (with_reducible apply below_drewN') | (refine Below.trans ?_ (Below.mono (by assumption) (by first | exact Nat.le_refl _ | (simp; done) | (simp; omega) | omega))) | exact Below.refl _ _ | assumption)) (by repeat (first | (with_reducible exact Below.refl _ _) | (with_reducible assumption) | ((with_reducible refine Below.setCell ?_ ?_ _); rotate_left; · (first | exact Nat.le_refl _ | (simp; done) | (simp; omega) | omega)) | ((with_reducible refine Below.alloc ?_ ?_ _); rotate_left; · (first | exact Nat.le_refl _ | (simp; done) | (simp; omega) | omega)) | (with_reducible apply Below.drew) | (with_reducible apply below_drewN') | (refine Below.trans ?_ (Below.mono (by assumption) (by first | exact Nat.le_refl _ | (simp; done) | (simp; omega) | omega))) | exact Below.refl _ _ | assumption))
                case ca9R28 => (first | (simp [Act.put]; done) | (simp [Act.put, *]; done))
                try dsimp only
                refine wpW_end (by kernel_rfl) ?_
                intro wE hg hS
                unfold NQ
                dsimp only
                have z := z.gr hg
                go_wp2_with fail
                go_meet
                exact ⟨_, rfl, rfl, z, hB9.trans (Below.mono hS (Below.size hB9)), hS⟩
      case rest =>
        obtain ⟨p, rfl, rfl, z, hBc, hB9c⟩ := hcut
        have bc := b9.gr hB9c
        have yc := y9.gr hB9c
        have xc := x9.gr hB9c
        clear b9 y9 x9 hB9 hB9c t0 t1 t2 t3 u0 u1 u2 u3 u4 u5 u6 u7 u8 u9 u10 lb ly
        cases hx : P.none
        case true =>
          have hh : hv = false := by rw [← HV.out]; exact PV.has_none hx n d
          subst hh
          rw [toldR_none hx] at hr
          subst hr
          go_wp2
          go_ret
          exact ⟨rfl, hBc⟩
        case false =>
          rw [toldR_some hx] at hr
          obtain ⟨g1, g2, g3⟩ := HG.out hx
          have HF := Lib.hid (PV.has_from HG.out hx)
          have HT := Lib.hid (PV.has_to HG.out hx)
          have HJu := Lib.hid (PV.has_just hx n d)
          obtain ⟨a, b, c', d', pn, up⟩ := P
          simp only at *
          subst hr
          have IP := Lib.hid HPt.out
          have e1 : ptE a b = 0 := Pt.err g1
          have e2 : ptE c' d' = 0 := Pt.err g2
          obtain ⟨m1, m2, m3, m4, _⟩ := g1
          obtain ⟨m5, m6, m7, m8, _⟩ := g2
          have k1 : cmpI (a * d') (c' * b) ≤ 0 := (cmpI_lei _ _).2 g3
          clear g3
          have lz := z.lt
          obtain ⟨z0, z1, z2, z3, zf⟩ := blk4 z
          go_wp2_with fail
          refine (rPointErr_any a b ⟨by omega, by omega⟩ ⟨by omega, by omega⟩ _).mono ?_
          rw [e1]
          rintro e wd ⟨rfl, hBd⟩
          have bc := bc.gr hBd
          have yc := yc.gr hBd
          have xc := xc.gr hBd
          have z := z.gr hBd
          have hBc := hBc.trans (Below.mono hBd (Below.size hBc))
          clear hBd lz z0 z1 z2 z3 zf
          have lz := z.lt
          obtain ⟨z0, z1, z2, z3, zf⟩ := blk4 z
          go_wp2_with fail
          refine (rPointErr_any c' d' ⟨by omega, by omega⟩ ⟨by omega, by omega⟩ _).mono ?_
          rw [e2]
          rintro e we ⟨rfl, hBe⟩
          have bc := bc.gr hBe
          have yc := yc.gr hBe
          have xc := xc.gr hBe
          have z := z.gr hBe
          have hBc := hBc.trans (Below.mono hBe (Below.size hBc))
          clear hBe lz z0 z1 z2 z3 zf
          have lz := z.lt
          obtain ⟨z0, z1, z2, z3, zf⟩ := blk4 z
          go_wp2_with fail
          refine (before_any a b c' d' ⟨by omega, by omega⟩ ⟨by omega, by omega⟩ ⟨by omega, by omega⟩ ⟨by omega, by omega⟩ _).mono ?_
          rintro e wf ⟨rfl, hBf⟩
          have bc := bc.gr hBf
          have yc := yc.gr hBf
          have xc := xc.gr hBf
          have z := z.gr hBf
          have hBc := hBc.trans (Below.mono hBf (Below.size hBc))
          clear hBf lz z0 z1 z2 z3 zf
          generalize cmpI (a * d') (c' * b) = v1 at *
          have HM1 := HM'.out a b e1
          have HM2 := HM'.out c' d' e2
          rw [HF.out] at HM1
          rw [HT.out] at HM2
          have HM1 := Lib.hid HM1
          have HM2 := Lib.hid HM2
          clear e1 e2
          have lb := bc.lt
          have ly := yc.lt
          have lx := xc.lt
          obtain ⟨t0, t1, t2, t3⟩ := jo_cells bc
          obtain ⟨u0, u1, u2, u3, u4, u5, u6, u7, u8, u9, u10⟩ := as_cells yc
          have lz := z.lt
          obtain ⟨z0, z1, z2, z3, zf⟩ := blk4 z
          go_wp2_with fail
          refine wp_region_w (Gr _) (by kernel_rfl) (Below.refl _ _).drew ?_
          refine wpW_det (t' := ?ct0R29) 0 (by rfl) (by kernel_rfl) (NQ_free _) (by kernel_rfl) ?cw0R29 ?ch0R29 ?ca0R29 (Eq.refl _) ?cH0R29
          case cw0R29 => (go_simp; done)
          case ch0R29 =>
            intro ds w' hS K hK
            have hc := (bcell hS).1
            have hf := (bcell hS).2
            have hz := hS.size
            try simp at hz
            go_simp
            try go_bits
            first
              | exact hK _ hS (Gr.refl _)
              | exact hK _ (by repeat (first | (with_reducible exact Below.refl _ _) | (with_reducible assumption) | ((with_reducible refine Below.setCell ?_ ?_ _); rotate_left; · (first | exact Nat.le_refl _ | (simp; done) | (simp; omega) | omega)) | ((with_reducible refine Below.alloc ?_ ?_ _); rotate_left; · (first | exact Nat.le_refl _ | (simp; done) | (simp; omega) | omega)) | (with_reducible apply Below.drew) | (with_reducible apply below_drewN') | (refine Below.trans ?_ (Below.mono (by assumption) (by first | exact Nat.le_refl _ | (simp; done) | (simp; omega) | omega))) | exact Below.refl _ _ | assumption)) (by repeat (first | (with_reducible exact Below.refl _ _) | (with_reducible assumption) | ((with_reducible refine Below.setCell ?_ ?_ _); rotate_left; · (first | exact Nat.le_refl _ | (simp; done) | (simp; omega) | omega)) | ((with_reducible refine Below.alloc ?_ ?_ _); rotate_left; · (first | exact Nat.le_refl _ | (simp; done) | (simp; omega) | omega)) | (with_reducible apply Below.drew) | (with_reducible apply below_drewN') | (refine Below.trans ?_ (Below.mono (by assumption) (by first | exact Nat.le_refl _ | (simp; done) | (simp; omega) | omega))) | exact Below.refl _ _ | assumption))
          case ca0R29 => (first | (simp [Act.put]; done) | (simp [Act.put, *]; done))
          try dsimp only
          refine wpW_det (t' := ?ct2R29) 2 (by rfl) (by kernel_rfl) (NQ_free _) (by kernel_rfl) ?cw2R29 ?ch2R29 ?ca2R29 (Eq.refl _) ?cH2R29
          case cw2R29 => (go_simp; done)
          case ch2R29 =>
            intro ds w' hS K hK
            have hc := (bcell hS).1
            have hf := (bcell hS).2
            have hz := hS.size
            try simp at hz
            go_simp
            try go_bits
            first
              | exact hK _ hS (Gr.refl _)
              | exact hK _ (by repeat (first | (with_reducible exact Below.refl _ _) | (with_reducible assumption) | ((with_reducible refine Below.setCell ?_ ?_ _); rotate_left; · (first | exact Nat.le_refl _ | (simp; done) | (simp; omega) | omega)) | ((with_reducible refine Below.alloc ?_ ?_ _); rotate_left; · (first | exact Nat.le_refl _ | (simp; done) | (simp; omega) | omega)) | (with_reducible apply Below.drew) | (with_reducible apply below_drewN') | (refine Below.trans ?_ (Below.mono (by assumption) (by first | exact Nat.le_refl _ | (simp; done) | (simp; omega) | omega))) | exact Below.refl _ _ | assumption)) (by repeat (first | (with_reducible exact Below.refl _ _) | (with_reducible assumption) | ((with_reducible refine Below.setCell ?_ ?_ _); rotate_left; · (first | exact Nat.le_refl _ | (simp; done) | (simp; omega) | omega)) | ((with_reducible refine Below.alloc ?_ ?_ _); rotate_left; · (first | exact Nat.le_refl _ | (simp; done) | (simp; omega) | omega)) | (with_reducible apply Below.drew) | (with_reducible apply below_drewN') | (refine Below.trans ?_ (Below.mono (by assumption) (by first | exact Nat.le_refl _ | (simp; done) | (simp; omega) | omega))) | exact Below.refl _ _ | assumption))
          case ca2R29 => (first | (simp [Act.put]; done) | (simp [Act.put, *]; done))
          try dsimp only
          refine wpW_det (t' := ?ct3R29) 3 (by rfl) (by kernel_rfl) (NQ_free _) (by kernel_rfl) ?cw3R29 ?ch3R29 ?ca3R29 (Eq.refl _) ?cH3R29
          case cw3R29 => (go_simp; done)
          case ch3R29 =>
            intro ds w' hS K hK
            have hc := (bcell hS).1
            have hf := (bcell hS).2
            have hz := hS.size
            try simp at hz
            go_simp
            try go_bits
            first
              | exact hK _ hS (Gr.refl _)
              | exact hK _ (by repeat (first | (with_reducible exact Below.refl _ _) | (with_reducible assumption) | ((with_reducible refine Below.setCell ?_ ?_ _); rotate_left; · (first | exact Nat.le_refl _ | (simp; done) | (simp; omega) | omega)) | ((with_reducible refine Below.alloc ?_ ?_ _); rotate_left; · (first | exact Nat.le_refl _ | (simp; done) | (simp; omega) | omega)) | (with_reducible apply Below.drew) | (with_reducible apply below_drewN') | (refine Below.trans ?_ (Below.mono (by assumption) (by first | exact Nat.le_refl _ | (simp; done) | (simp; omega) | omega))) | exact Below.refl _ _ | assumption)) (by repeat (first | (with_reducible exact Below.refl _ _) | (with_reducible assumption) | ((with_reducible refine Below.setCell ?_ ?_ _); rotate_left; · (first | exact Nat.le_refl _ | (simp; done) | (simp; omega) | omega)) | ((with_reducible refine Below.alloc ?_ ?_ _); rotate_left; · (first | exact Nat.le_refl _ | (simp; done) | (simp; omega) | omega)) | (with_reducible apply Below.drew) | (with_reducible apply below_drewN') | (refine Below.trans ?_ (Below.mono (by assumption) (by first | exact Nat.le_refl _ | (simp; done) | (simp; omega) | omega))) | exact Below.refl _ _ | assumption))
          case ca3R29 => (first | (simp [Act.put]; done) | (simp [Act.put, *]; done))
          try dsimp only
          refine wpW_det (t' := ?ct4R29) 4 (by rfl) (by kernel_rfl) (NQ_free _) (by kernel_rfl) ?cw4R29 ?ch4R29 ?ca4R29 (Eq.refl _) ?cH4R29
          case cw4R29 => (go_simp; done)
          case ch4R29 =>
            intro ds w' hS K hK
            have hc := (bcell hS).1
            have hf := (bcell hS).2
            have hz := hS.size
            try simp at hz
            go_simp
            try go_bits
            first
              | exact hK _ hS (Gr.refl _)
              | exact hK _ (by repeat (first | (with_reducible exact Below.refl _ _) | (with_reducible assumption) | ((with_reducible refine Below.setCell ?_ ?_ _); rotate_left; · (first | exact Nat.le_refl _ | (simp; done) | (simp; omega) | omega)) | ((with_reducible refine Below.alloc ?_ ?_ _); rotate_left; · (first | exact Nat.le_refl _ | (simp; done) | (simp; omega) | omega)) | (with_reducible apply Below.drew) | (with_reducible apply below_drewN') | (refine Below.trans ?_ (Below.mono (by assumption) (by first | exact Nat.le_refl _ | (simp; done) | (simp; omega) | omega))) | exact Below.refl _ _ | assumption)) (by repeat (first | (with_reducible exact Below.refl _ _) | (with_reducible assumption) | ((with_reducible refine Below.setCell ?_ ?_ _); rotate_left; · (first | exact Nat.le_refl _ | (simp; done) | (simp; omega) | omega)) | ((with_reducible refine Below.alloc ?_ ?_ _); rotate_left; · (first | exact Nat.le_refl _ | (simp; done) | (simp; omega) | omega)) | (with_reducible apply Below.drew) | (with_reducible apply below_drewN') | (refine Below.trans ?_ (Below.mono (by assumption) (by first | exact Nat.le_refl _ | (simp; done) | (simp; omega) | omega))) | exact Below.refl _ _ | assumption))
          case ca4R29 => (first | (simp [Act.put]; done) | (simp [Act.put, *]; done))
          try dsimp only
          refine wpW_branch [1] (by kernel_rfl) (by simp) ?_
          intro wga hg_wga hS_wga
          refine each_cons ?_ each_nil
          refine wpOp_go (by rfl) (Eq.refl _) (by go_simp; done) ?_
          intro K hK
          go_simp
          try simp only [Act.put]
          have hj5 := HJ.out _ (hBc.trans (Below.mono hS_wga (Below.size hBc)))
          refine (copyJoint_any j A c B _ hj5 HA.out (by omega)).mono ?_
          rintro e w6 ⟨v, rfl, own6, hB6⟩
          obtain ⟨A6, c6, rfl, hj6, hA6⟩ := copied hj5 own6
          have hS6 := Below.trans hS_wga (hB6.mono (Below.size hS_wga))
          refine hK _ _ hS6 ?_
          clear hK K own6 hB6 hS_wga hg_wga hj5
          refine wpW_branch [5] (by kernel_rfl) (by simp) ?_
          intro wha hg_wha hS_wha
          refine each_cons ?_ each_nil
          refine wpOp_go (by rfl) (Eq.refl _) (by go_simp; done) ?_
          intro K hK
          go_simp
          try simp only [Act.put]
          refine (isMet_any j face sn s a b A6 c6 w6.heap.size _ (hj6.below hg_wha (Nat.le_refl _)) (HE.out _ (hBc.trans (Below.mono hS_wha (Below.size hBc)))) hns hw ⟨by omega, by omega⟩ ⟨by omega, by omega⟩).mono ?_
          rw [HM1.out]
          rintro e w8 ⟨rfl, hB8⟩
          refine hK _ _ (Below.trans hS_wha (hB8.mono (Below.size hS_wha))) ?_
          clear hK K hB8 hS_wha hg_wha hj6 hA6 hS6
          refine wpW_det (t' := ?ct6R30) 6 (by rfl) (by kernel_rfl) (NQ_free _) (by kernel_rfl) ?cw6R30 ?ch6R30 ?ca6R30 (Eq.refl _) ?cH6R30
          case cw6R30 => (go_simp; done)
          case ch6R30 =>
            intro ds w' hS K hK
            have hc := (bcell hS).1
            have hf := (bcell hS).2
            have hz := hS.size
            try simp at hz
            go_simp
            try go_bits
            first
              | exact hK _ hS (Gr.refl _)
              | exact hK _ (by repeat (first | (with_reducible exact Below.refl _ _) | (with_reducible assumption) | ((with_reducible refine Below.setCell ?_ ?_ _); rotate_left; · (first | exact Nat.le_refl _ | (simp; done) | (simp; omega) | omega)) | ((with_reducible refine Below.alloc ?_ ?_ _); rotate_left; · (first | exact Nat.le_refl _ | (simp; done) | (simp; omega) | omega)) | (with_reducible apply Below.drew) | (with_reducible apply below_drewN') | (refine Below.trans ?_ (Below.mono (by assumption) (by first | exact Nat.le_refl _ | (simp; done) | (simp; omega) | omega))) | exact Below.refl _ _ | assumption)) (by repeat (first | (with_reducible exact Below.refl _ _) | (with_reducible assumption) | ((with_reducible refine Below.setCell ?_ ?_ _); rotate_left; · (first | exact Nat.le_refl _ | (simp; done) | (simp; omega) | omega)) | ((with_reducible refine Below.alloc ?_ ?_ _); rotate_left; · (first | exact Nat.le_refl _ | (simp; done) | (simp; omega) | omega)) | (with_reducible apply Below.drew) | (with_reducible apply below_drewN') | (refine Below.trans ?_ (Below.mono (by assumption) (by first | exact Nat.le_refl _ | (simp; done) | (simp; omega) | omega))) | exact Below.refl _ _ | assumption))
          case ca6R30 => (first | (simp [Act.put]; done) | (simp [Act.put, *]; done))
          try dsimp only
          refine wpW_det (t' := ?ct7R30) 7 (by rfl) (by kernel_rfl) (NQ_free _) (by kernel_rfl) ?cw7R30 ?ch7R30 ?ca7R30 (Eq.refl _) ?cH7R30
          case cw7R30 => (go_simp; done)
          case ch7R30 =>
            intro ds w' hS K hK
            have hc := (bcell hS).1
            have hf := (bcell hS).2
            have hz := hS.size
            try simp at hz
            go_simp
            try go_bits
            first
              | exact hK _ hS (Gr.refl _)
              | exact hK _ (by repeat (first | (with_reducible exact Below.refl _ _) | (with_reducible assumption) | ((with_reducible refine Below.setCell ?_ ?_ _); rotate_left; · (first | exact Nat.le_refl _ | (simp; done) | (simp; omega) | omega)) | ((with_reducible refine Below.alloc ?_ ?_ _); rotate_left; · (first | exact Nat.le_refl _ | (simp; done) | (simp; omega) | omega)) | (with_reducible apply Below.drew) | (with_reducible apply below_drewN') | (refine Below.trans ?_ (Below.mono (by assumption) (by first | exact Nat.le_refl _ | (simp; done) | (simp; omega) | omega))) | exact Below.refl _ _ | assumption)) (by repeat (first | (with_reducible exact Below.refl _ _) | (with_reducible assumption) | ((with_reducible refine Below.setCell ?_ ?_ _); rotate_left; · (first | exact Nat.le_refl _ | (simp; done) | (simp; omega) | omega)) | ((with_reducible refine Below.alloc ?_ ?_ _); rotate_left; · (first | exact Nat.le_refl _ | (simp; done) | (simp; omega) | omega)) | (with_reducible apply Below.drew) | (with_reducible apply below_drewN') | (refine Below.trans ?_ (Below.mono (by assumption) (by first | exact Nat.le_refl _ | (simp; done) | (simp; omega) | omega))) | exact Below.refl _ _ | assumption))
          case ca7R30 => (first | (simp [Act.put]; done) | (simp [Act.put, *]; done))
          try dsimp only
          refine wpW_det (t' := ?ct8R30) 8 (by rfl) (by kernel_rfl) (NQ_free _) (by kernel_rfl) ?cw8R30 ?ch8R30 ?ca8R30 (Eq.refl _) ?cH8R30
          case cw8R30 => (go_simp; done)
          case ch8R30 =>
            intro ds w' hS K hK
            have hc := (bcell hS).1
            have hf := (bcell hS).2
            have hz := hS.size
            try simp at hz
            go_simp
            try go_bits
            first
              | exact hK _ hS (Gr.refl _)
              | exact hK _ (by repeat (first | (with_reducible exact Below.refl _ _) | (with_reducible assumption) | ((with_reducible refine Below.setCell ?_ ?_ _); rotate_left; · (first | exact Nat.le_refl _ | (simp; done) | (simp; omega) | omega)) | ((with_reducible refine Below.alloc ?_ ?_ _); rotate_left; · (first | exact Nat.le_refl _ | (simp; done) | (simp; omega) | omega)) | (with_reducible apply Below.drew) | (with_reducible apply below_drewN') | (refine Below.trans ?_ (Below.mono (by assumption) (by first | exact Nat.le_refl _ | (simp; done) | (simp; omega) | omega))) | exact Below.refl _ _ | assumption)) (by repeat (first | (with_reducible exact Below.refl _ _) | (with_reducible assumption) | ((with_reducible refine Below.setCell ?_ ?_ _); rotate_left; · (first | exact Nat.le_refl _ | (simp; done) | (simp; omega) | omega)) | ((with_reducible refine Below.alloc ?_ ?_ _); rotate_left; · (first | exact Nat.le_refl _ | (simp; done) | (simp; omega) | omega)) | (with_reducible apply Below.drew) | (with_reducible apply below_drewN') | (refine Below.trans ?_ (Below.mono (by assumption) (by first | exact Nat.le_refl _ | (simp; done) | (simp; omega) | omega))) | exact Below.refl _ _ | assumption))
          case ca8R30 => (first | (simp [Act.put]; done) | (simp [Act.put, *]; done))
          try dsimp only
          refine wpW_det (t' := ?ct9R30) 9 (by rfl) (by kernel_rfl) (NQ_free _) (by kernel_rfl) ?cw9R30 ?ch9R30 ?ca9R30 (Eq.refl _) ?cH9R30
          case cw9R30 => (go_simp; done)
          case ch9R30 =>
            intro ds w' hS K hK
            have hc := (bcell hS).1
            have hf := (bcell hS).2
            have hz := hS.size
            try simp at hz
            go_simp
            try go_bits
            first
              | exact hK _ hS (Gr.refl _)
              | exact hK _ (by repeat (first | (with_reducible exact Below.refl _ _) | (with_reducible assumption) | ((with_reducible refine Below.setCell ?_ ?_ _); rotate_left; · (first | exact Nat.le_refl _ | (simp; done) | (simp; omega) | omega)) | ((with_reducible refine Below.alloc ?_ ?_ _); rotate_left; · (first | exact Nat.le_refl _ | (simp; done) | (simp; omega) | omega)) | (with_reducible apply Below.drew) | (with_reducible apply below_drewN') | (refine Below.trans ?_ (Below.mono (by assumption) (by first | exact Nat.le_refl _ | (simp; done) | (simp; omega) | omega))) | exact Below.refl _ _ | assumption)) (by repeat (first | (with_reducible exact Below.refl _ _) | (with_reducible assumption) | ((with_reducible refine Below.setCell ?_ ?_ _); rotate_left; · (first | exact Nat.le_refl _ | (simp; done) | (simp; omega) | omega)) | ((with_reducible refine Below.alloc ?_ ?_ _); rotate_left; · (first | exact Nat.le_refl _ | (simp; done) | (simp; omega) | omega)) | (with_reducible apply Below.drew) | (with_reducible apply below_drewN') | (refine Below.trans ?_ (Below.mono (by assumption) (by first | exact Nat.le_refl _ | (simp; done) | (simp; omega) | omega))) | exact Below.refl _ _ | assumption))
          case ca9R30 => (first | (simp [Act.put]; done) | (simp [Act.put, *]; done))
          try dsimp only
          refine wpW_det (t' := ?ct10R30) 10 (by rfl) (by kernel_rfl) (NQ_free _) (by kernel_rfl) ?cw10R30 ?ch10R30 ?ca10R30 (Eq.refl _) ?cH10R30
          case cw10R30 => (go_simp; done)
          case ch10R30 =>
            intro ds w' hS K hK
            have hc := (bcell hS).1
            have hf := (bcell hS).2
            have hz := hS.size
            try simp at hz
            go_simp
            try go_bits
            first
              | exact hK _ hS (Gr.refl _)
              | exact hK _ (by repeat (first | (with_reducible exact Below.refl _ _) | (with_reducible assumption) | ((with_reducible refine Below.setCell ?_ ?_ _); rotate_left; · (first | exact Nat.le_refl _ | (simp; done) | (simp; omega) | omega)) | ((with_reducible refine Below.alloc ?_ ?_ _); rotate_left; · (first | exact Nat.le_refl _ | (simp; done) | (simp; omega) | omega)) | (with_reducible apply Below.drew) | (with_reducible apply below_drewN') | (refine Below.trans ?_ (Below.mono (by assumption) (by first | exact Nat.le_refl _ | (simp; done) | (simp; omega) | omega))) | exact Below.refl _ _ | assumption)) (by repeat (first | (with_reducible exact Below.refl _ _) | (with_reducible assumption) | ((with_reducible refine Below.setCell ?_ ?_ _); rotate_left; · (first | exact Nat.le_refl _ | (simp; done) | (simp; omega) | omega)) | ((with_reducible refine Below.alloc ?_ ?_ _); rotate_left; · (first | exact Nat.le_refl _ | (simp; done) | (simp; omega) | omega)) | (with_reducible apply Below.drew) | (with_reducible apply below_drewN') | (refine Below.trans ?_ (Below.mono (by assumption) (by first | exact Nat.le_refl _ | (simp; done) | (simp; omega) | omega))) | exact Below.refl _ _ | assumption))
          case ca10R30 => (first | (simp [Act.put]; done) | (simp [Act.put, *]; done))
          try dsimp only
          refine wpW_end (by kernel_rfl) ?_
          intro wia hg hS
          unfold NQ
          dsimp only
          have bc := bc.gr hS
          have yc := yc.gr hS
          have xc := xc.gr hS
          have z := z.gr hS
          have hBc := hBc.trans (Below.mono hS (Below.size hBc))
          clear hg hS t0 t1 t2 t3 u0 u1 u2 u3 u4 u5 u6 u7 u8 u9 u10 lb ly lx lz z0 z1 z2 z3 zf
          have lb := bc.lt
          have ly := yc.lt
          have lx := xc.lt
          obtain ⟨t0, t1, t2, t3⟩ := jo_cells bc
          obtain ⟨u0, u1, u2, u3, u4, u5, u6, u7, u8, u9, u10⟩ := as_cells yc
          have lz := z.lt
          obtain ⟨z0, z1, z2, z3, zf⟩ := blk4 z
          go_wp2_with fail
          refine wp_region_w (Gr _) (by kernel_rfl) (Below.refl _ _).drew ?_
          refine wpW_det (t' := ?ct0R31) 0 (by rfl) (by kernel_rfl) (NQ_free _) (by kernel_rfl) ?cw0R31 ?ch0R31 ?ca0R31 (Eq.refl _) ?cH0R31
          case cw0R31 => (go_simp; done)
          case ch0R31 =>
            intro ds w' hS K hK
            have hc := (bcell hS).1
            have hf := (bcell hS).2
            have hz := hS.size
            try simp at hz
            go_simp
            try go_bits
            first
              | exact hK _ hS (Gr.refl _)
              | exact hK _ (by repeat (first | (with_reducible exact Below.refl _ _) | (with_reducible assumption) | ((with_reducible refine Below.setCell ?_ ?_ _); rotate_left; · (first | exact Nat.le_refl _ | (simp; done) | (simp; omega) | omega)) | ((with_reducible refine Below.alloc ?_ ?_ _); rotate_left; · (first | exact Nat.le_refl _ | (simp; done) | (simp; omega) | omega)) | (with_reducible apply Below.drew) | (with_reducible apply below_drewN') | (refine Below.trans ?_ (Below.mono (by assumption) (by first | exact Nat.le_refl _ | (simp; done) | (simp; omega) | omega))) | exact Below.refl _ _ | assumption)) (by repeat (first | (with_reducible exact Below.refl _ _) | (with_reducible assumption) | ((with_reducible refine Below.setCell ?_ ?_ _); rotate_left; · (first | exact Nat.le_refl _ | (simp; done) | (simp; omega) | omega)) | ((with_reducible refine Below.alloc ?_ ?_ _); rotate_left; · (first | exact Nat.le_refl _ | (simp; done) | (simp; omega) | omega)) | (with_reducible apply Below.drew) | (with_reducible apply below_drewN') | (refine Below.trans ?_ (Below.mono (by assumption) (by first | exact Nat.le_refl _ | (simp; done) | (simp; omega) | omega))) | exact Below.refl _ _ | assumption))
          case ca0R31 => (first | (simp [Act.put]; done) | (simp [Act.put, *]; done))
          try dsimp only
          refine wpW_det (t' := ?ct2R31) 2 (by rfl) (by kernel_rfl) (NQ_free _) (by kernel_rfl) ?cw2R31 ?ch2R31 ?ca2R31 (Eq.refl _) ?cH2R31
          case cw2R31 => (go_simp; done)
          case ch2R31 =>
            intro ds w' hS K hK
            have hc := (bcell hS).1
            have hf := (bcell hS).2
            have hz := hS.size
            try simp at hz
            go_simp
            try go_bits
            first
              | exact hK _ hS (Gr.refl _)
              | exact hK _ (by repeat (first | (with_reducible exact Below.refl _ _) | (with_reducible assumption) | ((with_reducible refine Below.setCell ?_ ?_ _); rotate_left; · (first | exact Nat.le_refl _ | (simp; done) | (simp; omega) | omega)) | ((with_reducible refine Below.alloc ?_ ?_ _); rotate_left; · (first | exact Nat.le_refl _ | (simp; done) | (simp; omega) | omega)) | (with_reducible apply Below.drew) | (with_reducible apply below_drewN') | (refine Below.trans ?_ (Below.mono (by assumption) (by first | exact Nat.le_refl _ | (simp; done) | (simp; omega) | omega))) | exact Below.refl _ _ | assumption)) (by repeat (first | (with_reducible exact Below.refl _ _) | (with_reducible assumption) | ((with_reducible refine Below.setCell ?_ ?_ _); rotate_left; · (first | exact Nat.le_refl _ | (simp; done) | (simp; omega) | omega)) | ((with_reducible refine Below.alloc ?_ ?_ _); rotate_left; · (first | exact Nat.le_refl _ | (simp; done) | (simp; omega) | omega)) | (with_reducible apply Below.drew) | (with_reducible apply below_drewN') | (refine Below.trans ?_ (Below.mono (by assumption) (by first | exact Nat.le_refl _ | (simp; done) | (simp; omega) | omega))) | exact Below.refl _ _ | assumption))
          case ca2R31 => (first | (simp [Act.put]; done) | (simp [Act.put, *]; done))
          try dsimp only
          refine wpW_det (t' := ?ct3R31) 3 (by rfl) (by kernel_rfl) (NQ_free _) (by kernel_rfl) ?cw3R31 ?ch3R31 ?ca3R31 (Eq.refl _) ?cH3R31
          case cw3R31 => (go_simp; done)
          case ch3R31 =>
            intro ds w' hS K hK
            have hc := (bcell hS).1
            have hf := (bcell hS).2
            have hz := hS.size
            try simp at hz
            go_simp
            try go_bits
            first
              | exact hK _ hS (Gr.refl _)
              | exact hK _ (by repeat (first | (with_reducible exact Below.refl _ _) | (with_reducible assumption) | ((with_reducible refine Below.setCell ?_ ?_ _); rotate_left; · (first | exact Nat.le_refl _ | (simp; done) | (simp; omega) | omega)) | ((with_reducible refine Below.alloc ?_ ?_ _); rotate_left; · (first | exact Nat.le_refl _ | (simp; done) | (simp; omega) | omega)) | (with_reducible apply Below.drew) | (with_reducible apply below_drewN') | (refine Below.trans ?_ (Below.mono (by assumption) (by first | exact Nat.le_refl _ | (simp; done) | (simp; omega) | omega))) | exact Below.refl _ _ | assumption)) (by repeat (first | (with_reducible exact Below.refl _ _) | (with_reducible assumption) | ((with_reducible refine Below.setCell ?_ ?_ _); rotate_left; · (first | exact Nat.le_refl _ | (simp; done) | (simp; omega) | omega)) | ((with_reducible refine Below.alloc ?_ ?_ _); rotate_left; · (first | exact Nat.le_refl _ | (simp; done) | (simp; omega) | omega)) | (with_reducible apply Below.drew) | (with_reducible apply below_drewN') | (refine Below.trans ?_ (Below.mono (by assumption) (by first | exact Nat.le_refl _ | (simp; done) | (simp; omega) | omega))) | exact Below.refl _ _ | assumption))
          case ca3R31 => (first | (simp [Act.put]; done) | (simp [Act.put, *]; done))
          try dsimp only
          refine wpW_det (t' := ?ct4R31) 4 (by rfl) (by kernel_rfl) (NQ_free _) (by kernel_rfl) ?cw4R31 ?ch4R31 ?ca4R31 (Eq.refl _) ?cH4R31
          case cw4R31 => (go_simp; done)
          case ch4R31 =>
            intro ds w' hS K hK
            have hc := (bcell hS).1
            have hf := (bcell hS).2
            have hz := hS.size
            try simp at hz
            go_simp
            try go_bits
            first
              | exact hK _ hS (Gr.refl _)
              | exact hK _ (by repeat (first | (with_reducible exact Below.refl _ _) | (with_reducible assumption) | ((with_reducible refine Below.setCell ?_ ?_ _); rotate_left; · (first | exact Nat.le_refl _ | (simp; done) | (simp; omega) | omega)) | ((with_reducible refine Below.alloc ?_ ?_ _); rotate_left; · (first | exact Nat.le_refl _ | (simp; done) | (simp; omega) | omega)) | (with_reducible apply Below.drew) | (with_reducible apply below_drewN') | (refine Below.trans ?_ (Below.mono (by assumption) (by first | exact Nat.le_refl _ | (simp; done) | (simp; omega) | omega))) | exact Below.refl _ _ | assumption)) (by repeat (first | (with_reducible exact Below.refl _ _) | (with_reducible assumption) | ((with_reducible refine Below.setCell ?_ ?_ _); rotate_left; · (first | exact Nat.le_refl _ | (simp; done) | (simp; omega) | omega)) | ((with_reducible refine Below.alloc ?_ ?_ _); rotate_left; · (first | exact Nat.le_refl _ | (simp; done) | (simp; omega) | omega)) | (with_reducible apply Below.drew) | (with_reducible apply below_drewN') | (refine Below.trans ?_ (Below.mono (by assumption) (by first | exact Nat.le_refl _ | (simp; done) | (simp; omega) | omega))) | exact Below.refl _ _ | assumption))
          case ca4R31 => (first | (simp [Act.put]; done) | (simp [Act.put, *]; done))
          try dsimp only
          refine wpW_branch [1] (by kernel_rfl) (by simp) ?_
          intro wgb hg_wgb hS_wgb
          refine each_cons ?_ each_nil
          refine wpOp_go (by rfl) (Eq.refl _) (by go_simp; done) ?_
          intro K hK
          go_simp
          try simp only [Act.put]
          have hj5 := HJ.out _ (hBc.trans (Below.mono hS_wgb (Below.size hBc)))
          refine (copyJoint_any j A c B _ hj5 HA.out (by omega)).mono ?_
          rintro e w6 ⟨v, rfl, own6, hB6⟩
          obtain ⟨A6, c6, rfl, hj6, hA6⟩ := copied hj5 own6
          have hS6 := Below.trans hS_wgb (hB6.mono (Below.size hS_wgb))
          refine hK _ _ hS6 ?_
          clear hK K own6 hB6 hS_wgb hg_wgb hj5
          refine wpW_branch [5] (by kernel_rfl) (by simp) ?_
          intro whb hg_whb hS_whb
          refine each_cons ?_ each_nil
          refine wpOp_go (by rfl) (Eq.refl _) (by go_simp; done) ?_
          intro K hK
          go_simp
          try simp only [Act.put]
          refine (isMet_any j face sn s c' d' A6 c6 w6.heap.size _ (hj6.below hg_whb (Nat.le_refl _)) (HE.out _ (hBc.trans (Below.mono hS_whb (Below.size hBc)))) hns hw ⟨by omega, by omega⟩ ⟨by omega, by omega⟩).mono ?_
          rw [HM2.out]
          rintro e w8 ⟨rfl, hB8⟩
          refine hK _ _ (Below.trans hS_whb (hB8.mono (Below.size hS_whb))) ?_
          clear hK K hB8 hS_whb hg_whb hj6 hA6 hS6
          refine wpW_det (t' := ?ct6R32) 6 (by rfl) (by kernel_rfl) (NQ_free _) (by kernel_rfl) ?cw6R32 ?ch6R32 ?ca6R32 (Eq.refl _) ?cH6R32
          case cw6R32 => (go_simp; done)
          case ch6R32 =>
            intro ds w' hS K hK
            have hc := (bcell hS).1
            have hf := (bcell hS).2
            have hz := hS.size
            try simp at hz
            go_simp
            try go_bits
            first
              | exact hK _ hS (Gr.refl _)
              | exact hK _ (by repeat (first | (with_reducible exact Below.refl _ _) | (with_reducible assumption) | ((with_reducible refine Below.setCell ?_ ?_ _); rotate_left; · (first | exact Nat.le_refl _ | (simp; done) | (simp; omega) | omega)) | ((with_reducible refine Below.alloc ?_ ?_ _); rotate_left; · (first | exact Nat.le_refl _ | (simp; done) | (simp; omega) | omega)) | (with_reducible apply Below.drew) | (with_reducible apply below_drewN') | (refine Below.trans ?_ (Below.mono (by assumption) (by first | exact Nat.le_refl _ | (simp; done) | (simp; omega) | omega))) | exact Below.refl _ _ | assumption)) (by repeat (first | (with_reducible exact Below.refl _ _) | (with_reducible assumption) | ((with_reducible refine Below.setCell ?_ ?_ _); rotate_left; · (first | exact Nat.le_refl _ | (simp; done) | (simp; omega) | omega)) | ((with_reducible refine Below.alloc ?_ ?_ _); rotate_left; · (first | exact Nat.le_refl _ | (simp; done) | (simp; omega) | omega)) | (with_reducible apply Below.drew) | (with_reducible apply below_drewN') | (refine Below.trans ?_ (Below.mono (by assumption) (by first | exact Nat.le_refl _ | (simp; done) | (simp; omega) | omega))) | exact Below.refl _ _ | assumption))
          case ca6R32 => (first | (simp [Act.put]; done) | (simp [Act.put, *]; done))
          try dsimp only
          refine wpW_det (t' := ?ct7R32) 7 (by rfl) (by kernel_rfl) (NQ_free _) (by kernel_rfl) ?cw7R32 ?ch7R32 ?ca7R32 (Eq.refl _) ?cH7R32
          case cw7R32 => (go_simp; done)
          case ch7R32 =>
            intro ds w' hS K hK
            have hc := (bcell hS).1
            have hf := (bcell hS).2
            have hz := hS.size
            try simp at hz
            go_simp
            try go_bits
            first
              | exact hK _ hS (Gr.refl _)
              | exact hK _ (by repeat (first | (with_reducible exact Below.refl _ _) | (with_reducible assumption) | ((with_reducible refine Below.setCell ?_ ?_ _); rotate_left; · (first | exact Nat.le_refl _ | (simp; done) | (simp; omega) | omega)) | ((with_reducible refine Below.alloc ?_ ?_ _); rotate_left; · (first | exact Nat.le_refl _ | (simp; done) | (simp; omega) | omega)) | (with_reducible apply Below.drew) | (with_reducible apply below_drewN') | (refine Below.trans ?_ (Below.mono (by assumption) (by first | exact Nat.le_refl _ | (simp; done) | (simp; omega) | omega))) | exact Below.refl _ _ | assumption)) (by repeat (first | (with_reducible exact Below.refl _ _) | (with_reducible assumption) | ((with_reducible refine Below.setCell ?_ ?_ _); rotate_left; · (first | exact Nat.le_refl _ | (simp; done) | (simp; omega) | omega)) | ((with_reducible refine Below.alloc ?_ ?_ _); rotate_left; · (first | exact Nat.le_refl _ | (simp; done) | (simp; omega) | omega)) | (with_reducible apply Below.drew) | (with_reducible apply below_drewN') | (refine Below.trans ?_ (Below.mono (by assumption) (by first | exact Nat.le_refl _ | (simp; done) | (simp; omega) | omega))) | exact Below.refl _ _ | assumption))
          case ca7R32 => (first | (simp [Act.put]; done) | (simp [Act.put, *]; done))
          try dsimp only
          refine wpW_det (t' := ?ct8R32) 8 (by rfl) (by kernel_rfl) (NQ_free _) (by kernel_rfl) ?cw8R32 ?ch8R32 ?ca8R32 (Eq.refl _) ?cH8R32
          case cw8R32 => (go_simp; done)
          case ch8R32 =>
            intro ds w' hS K hK
            have hc := (bcell hS).1
            have hf := (bcell hS).2
            have hz := hS.size
            try simp at hz
            go_simp
            try go_bits
            first
              | exact hK _ hS (Gr.refl _)
              | exact hK _ (by repeat (first | (with_reducible exact Below.refl _ _) | (with_reducible assumption) | ((with_reducible refine Below.setCell ?_ ?_ _); rotate_left; · (first | exact Nat.le_refl _ | (simp; done) | (simp; omega) | omega)) | ((with_reducible refine Below.alloc ?_ ?_ _); rotate_left; · (first | exact Nat.le_refl _ | (simp; done) | (simp; omega) | omega)) | (with_reducible apply Below.drew) | (with_reducible apply below_drewN') | (refine Below.trans ?_ (Below.mono (by assumption) (by first | exact Nat.le_refl _ | (simp; done) | (simp; omega) | omega))) | exact Below.refl _ _ | assumption)) (by repeat (first | (with_reducible exact Below.refl _ _) | (with_reducible assumption) | ((with_reducible refine Below.setCell ?_ ?_ _); rotate_left; · (first | exact Nat.le_refl _ | (simp; done) | (simp; omega) | omega)) | ((with_reducible refine Below.alloc ?_ ?_ _); rotate_left; · (first | exact Nat.le_refl _ | (simp; done) | (simp; omega) | omega)) | (with_reducible apply Below.drew) | (with_reducible apply below_drewN') | (refine Below.trans ?_ (Below.mono (by assumption) (by first | exact Nat.le_refl _ | (simp; done) | (simp; omega) | omega))) | exact Below.refl _ _ | assumption))
          case ca8R32 => (first | (simp [Act.put]; done) | (simp [Act.put, *]; done))
          try dsimp only
          refine wpW_det (t' := ?ct9R32) 9 (by rfl) (by kernel_rfl) (NQ_free _) (by kernel_rfl) ?cw9R32 ?ch9R32 ?ca9R32 (Eq.refl _) ?cH9R32
          case cw9R32 => (go_simp; done)
          case ch9R32 =>
            intro ds w' hS K hK
            have hc := (bcell hS).1
            have hf := (bcell hS).2
            have hz := hS.size
            try simp at hz
            go_simp
            try go_bits
            first
              | exact hK _ hS (Gr.refl _)
              | exact hK _ (by repeat (first | (with_reducible exact Below.refl _ _) | (with_reducible assumption) | ((with_reducible refine Below.setCell ?_ ?_ _); rotate_left; · (first | exact Nat.le_refl _ | (simp; done) | (simp; omega) | omega)) | ((with_reducible refine Below.alloc ?_ ?_ _); rotate_left; · (first | exact Nat.le_refl _ | (simp; done) | (simp; omega) | omega)) | (with_reducible apply Below.drew) | (with_reducible apply below_drewN') | (refine Below.trans ?_ (Below.mono (by assumption) (by first | exact Nat.le_refl _ | (simp; done) | (simp; omega) | omega))) | exact Below.refl _ _ | assumption)) (by repeat (first | (with_reducible exact Below.refl _ _) | (with_reducible assumption) | ((with_reducible refine Below.setCell ?_ ?_ _); rotate_left; · (first | exact Nat.le_refl _ | (simp; done) | (simp; omega) | omega)) | ((with_reducible refine Below.alloc ?_ ?_ _); rotate_left; · (first | exact Nat.le_refl _ | (simp; done) | (simp; omega) | omega)) | (with_reducible apply Below.drew) | (with_reducible apply below_drewN') | (refine Below.trans ?_ (Below.mono (by assumption) (by first | exact Nat.le_refl _ | (simp; done) | (simp; omega) | omega))) | exact Below.refl _ _ | assumption))
          case ca9R32 => (first | (simp [Act.put]; done) | (simp [Act.put, *]; done))
          try dsimp only
          refine wpW_det (t' := ?ct10R32) 10 (by rfl) (by kernel_rfl) (NQ_free _) (by kernel_rfl) ?cw10R32 ?ch10R32 ?ca10R32 (Eq.refl _) ?cH10R32
          case cw10R32 => (go_simp; done)
          case ch10R32 =>
            intro ds w' hS K hK
            have hc := (bcell hS).1
            have hf := (bcell hS).2
            have hz := hS.size
            try simp at hz
            go_simp
            try go_bits
            first
              | exact hK _ hS (Gr.refl _)
              | exact hK _ (by repeat (first | (with_reducible exact Below.refl _ _) | (with_reducible assumption) | ((with_reducible refine Below.setCell ?_ ?_ _); rotate_left; · (first | exact Nat.le_refl _ | (simp; done) | (simp; omega) | omega)) | ((with_reducible refine Below.alloc ?_ ?_ _); rotate_left; · (first | exact Nat.le_refl _ | (simp; done) | (simp; omega) | omega)) | (with_reducible apply Below.drew) | (with_reducible apply below_drewN') | (refine Below.trans ?_ (Below.mono (by assumption) (by first | exact Nat.le_refl _ | (simp; done) | (simp; omega) | omega))) | exact Below.refl _ _ | assumption)) (by repeat (first | (with_reducible exact Below.refl _ _) | (with_reducible assumption) | ((with_reducible refine Below.setCell ?_ ?_ _); rotate_left; · (first | exact Nat.le_refl _ | (simp; done) | (simp; omega) | omega)) | ((with_reducible refine Below.alloc ?_ ?_ _); rotate_left; · (first | exact Nat.le_refl _ | (simp; done) | (simp; omega) | omega)) | (with_reducible apply Below.drew) | (with_reducible apply below_drewN') | (refine Below.trans ?_ (Below.mono (by assumption) (by first | exact Nat.le_refl _ | (simp; done) | (simp; omega) | omega))) | exact Below.refl _ _ | assumption))
          case ca10R32 => (first | (simp [Act.put]; done) | (simp [Act.put, *]; done))
          try dsimp only
          refine wpW_end (by kernel_rfl) ?_
          intro wib hg hS
          unfold NQ
          dsimp only
          have bc := bc.gr hS
          have yc := yc.gr hS
          have xc := xc.gr hS
          have z := z.gr hS
          have hBc := hBc.trans (Below.mono hS (Below.size hBc))
          clear hg hS t0 t1 t2 t3 u0 u1 u2 u3 u4 u5 u6 u7 u8 u9 u10 lb ly lx lz z0 z1 z2 z3 zf
          clear bc yc
          have lx := xc.lt
          have i0 : wib.cell? ⟨w.heap.size + 1 + 1, 0, none⟩ = some (.int .i64 n) := xc.cell 0
          have i1 : wib.cell? ⟨w.heap.size + 1 + 1, 1, none⟩ = some (.int .i64 d) := xc.cell 1
          have lz := z.lt
          obtain ⟨z0, z1, z2, z3, zf⟩ := blk4 z
          obtain ⟨p1, p2, p3, p4, _⟩ := HPt.out
          rw [HJu.out] at HV
          clear HJu HF HT HM1 HM2 HM'
          go_wp2_with fail
          refine (before_any a b n d ⟨by omega, by omega⟩ ⟨by omega, by omega⟩ ⟨by omega, by omega⟩ ⟨by omega, by omega⟩ _).mono ?_
          rintro e wk ⟨rfl, hBk⟩
          generalize cmpI (a * d) (n * b) = v2 at *
          have z := z.gr hBk
          have xc := xc.gr hBk
          have hBc := hBc.trans (Below.mono hBk (Below.size hBc))
          clear hBk lx lz i0 i1 z0 z1 z2 z3 zf
          have lx := xc.lt
          have i0 : wk.cell? ⟨w.heap.size + 1 + 1, 0, none⟩ = some (.int .i64 n) := xc.cell 0
          have i1 : wk.cell? ⟨w.heap.size + 1 + 1, 1, none⟩ = some (.int .i64 d) := xc.cell 1
          have lz := z.lt
          obtain ⟨z0, z1, z2, z3, zf⟩ := blk4 z
          by_cases q2 : v2 ≤ 0
          · go_wp2_with fail
            refine (before_any n d c' d' ⟨by omega, by omega⟩ ⟨by omega, by omega⟩ ⟨by omega, by omega⟩ ⟨by omega, by omega⟩ _).mono ?_
            rintro e wl ⟨rfl, hBl⟩
            generalize cmpI (n * d') (c' * d) = v3 at *
            have hBc := hBc.trans (Below.mono hBl (Below.size hBc))
            by_cases q3 : v3 ≤ 0
            · have hh : hv = true := by rw [← HV.out]; simp [q2, q3]
              subst hh
              go_wp2
              go_ret
              exact ⟨rfl, hBc⟩
            · have hh : hv = false := by rw [← HV.out]; simp [q2, q3]
              subst hh
              go_wp2
              go_ret
              refine ⟨?_, hBc⟩
              simp [q3]
          · have hh : hv = false := by rw [← HV.out]; simp [q2]
            subst hh
            go_wp2
            go_ret
            exact ⟨rfl, hBc⟩
end Go.Proofs.YtfbnpfhnffahdaaGreatDoor
