/- The law FlawAreas answers true. -/
import Derived.Test.YtidgeagpgllkeaaGreatZaFnP
namespace Go.Proofs.YtidgeagpgllkeaaGreat
open Go.RowKit

theorem scanAsk_one {l : List Sc} {level : Int} : ((scansE l).2 = 0 → scanAskE l level = levelE level) ∧ ((scansE l).2 ≠ 0 → scanAskE l level = (scansE l).2) := by
  unfold scanAskE
  constructor
  · intro h; rw [h]; simp [firstE]; exact fun h => h.symm
  · intro h; simp [firstE, h]
theorem own_arok {W : World} {A' : Option Addr} {c' : Nat} {cs : List (Int × Int)} (h : W.ownsRow 0 25 2 (.slice A' cs.length c') cs.length (cellsC cs)) : ArOk (.slice A' cs.length c', cs) W.heap.size W := own_ar (a := (.slice A' cs.length c', cs)) h

theorem ArOk.more {a : ArA} {B B' : Nat} {w : World} (h : ArOk a B w) (hB : B ≤ B') : ArOk a B' w := ⟨h.len, by obtain ⟨A, c, e, hr⟩ := h.row; exact ⟨A, c, e, hr.more hB⟩⟩
/-- Grown since. -/
structure GrJ (V W : World) : Prop where
  g : Gr V W
theorem GrJ.below {V W W' : World} {C : Nat} (h : GrJ V W) (hb : Below C W W') (hC : V.heap.size ≤ C) : GrJ V W' := ⟨Below.trans h.g (hb.mono hC)⟩
theorem GrJ.base {V W : World} (h : GrJ V W) : V.heap.size ≤ W.heap.size := Below.size h.g

set_option maxRecDepth 100000 in
set_option maxHeartbeats 8000000 in
theorem flawAreas_any (l : List Sc) (A : Option Addr) (c : Nat) (level : Int) (corners : Bool) (p0 p1 : Int) (w : World) (ha : ScArg l A c w) :
    Calls Tryz.prog 13 #[.slice A l.length c, .agg #[.int .i64 level, .bool corners], .agg #[.int .i64 p0, .int .i64 p1]] w fun e w' => e = .returned (.bool true) ∧ Below w.heap.size w w' := by
  have HNIL := Lib.hid ha.nil
  have hle := ha.le
  have hmost := ha.most
  have b4 := (Blk.new w 24 #[.int .i64 level, .bool corners]).alloc (.cells #[.int .i64 p0, .int .i64 p1] 25)
  have b5 := Blk.new (w.alloc (.cells #[.int .i64 level, .bool corners] 24)) 25 #[.int .i64 p0, .int .i64 p1]
  have hBB : Below w.heap.size w ((w.alloc (.cells #[.int .i64 level, .bool corners] 24)).alloc (.cells #[.int .i64 p0, .int .i64 p1] 25)) := (by repeat (first | (with_reducible exact Below.refl _ _) | (with_reducible assumption) | ((with_reducible refine Below.setCell ?_ ?_ _); rotate_left; · (first | exact Nat.le_refl _ | (simp; done) | (simp; omega) | omega)) | ((with_reducible refine Below.alloc ?_ ?_ _); rotate_left; · (first | exact Nat.le_refl _ | (simp; done) | (simp; omega) | omega)) | (with_reducible apply Below.drew) | (with_reducible apply below_drewN') | (refine Below.trans ?_ (Below.mono (by assumption) (by first | exact Nat.le_refl _ | (simp; done) | (simp; omega) | omega))) | exact Below.refl _ _ | assumption))
  simp only [World.size_alloc] at b5
  go_enter Tryz.func13, Tryz.ntmps13
  go_wp2_with fail
  obtain ⟨W, hW⟩ : ∃ W, (w.alloc (.cells #[.int .i64 level, .bool corners] 24)).alloc (.cells #[.int .i64 p0, .int .i64 p1] 25) = W := ⟨_, rfl⟩
  rw [hW] at b4 b5 hBB ⊢
  clear hW
  refine (awake_any _).mono ?_
  rintro e w1 ⟨rfl, hB1⟩
  replace b4 := b4.gr hB1
  replace b5 := b5.gr hB1
  replace hBB := hBB.trans (hB1.mono (Below.size hBB))
  clear hB1
  have l_b4 := b4.lt
  obtain ⟨x0, x1, f4⟩ := blk2c b4
  have l_b5 := b5.lt
  obtain ⟨y0, y1, f5⟩ := blk2c b5
  go_wp2_with fail
  refine (few_wide l A c w.heap.size _ (by omega) (ha.row.below hBB (Nat.le_refl _)) (Lib.hid (fun s hs => by have := (ha.each s hs).2.2; omega)) (Below.size hBB)).mono ?_
  rintro e wc1 ⟨rfl, hBc1⟩
  replace b4 := b4.gr hBc1
  replace b5 := b5.gr hBc1
  replace hBB := hBB.trans (Below.mono hBc1 (Below.size hBB))
  clear hBc1
  clear l_b4 x0 x1 f4 l_b5 y0 y1 f5
  have l_b4 := b4.lt
  have l_b5 := b5.lt
  obtain ⟨x0, x1, f4⟩ := blk2c b4
  obtain ⟨y0, y1, f5⟩ := blk2c b5
  cases hf : fewB l
  · go_wp2
    go_ret
    exact ⟨rfl, hBB⟩
  have hl := ha.ok hf
  obtain ⟨hl8, hd36⟩ := fewB_true hf
  have HD : Hid (∀ s ∈ l, s.data.length ≤ s.dcap ∧ (s.dA = none → s.dcap = 0)) := Lib.hid (fun s hs => ⟨(ha.each s hs).2.2.1, (ha.each s hs).1⟩)
  have HSZ : Hid (∀ s ∈ l, s.data.length ≤ 1000000000) := Lib.hid hl.size
  clear hf hd36 ha
  cases hw0 : wi p0 (-200000) 200000
  · have Q0 := Lib.hid hw0; clear hw0
    go_wp2_with (go_at_call 27; refine (bWithin_any _ _ _ _).mono ?_; rw [Q0.out]; rintro e w1 ⟨rfl, rfl⟩)
    go_ret
    exact ⟨rfl, hBB⟩
  cases hw1 : wi p1 (-200000) 200000
  · have Q0 := Lib.hid hw0; have Q1 := Lib.hid hw1; clear hw0 hw1
    go_wp2_with (go_at_call 27; refine (bWithin_any _ _ _ _).mono ?_; (first | rw [Q0.out] | rw [Q1.out]); rintro e w1 ⟨rfl, rfl⟩)
    go_ret
    exact ⟨rfl, hBB⟩
  have hp0 : -200000 ≤ p0 ∧ p0 ≤ 200000 := by simpa [wi] using hw0
  have hp1 : -200000 ≤ p1 ∧ p1 ≤ 200000 := by simpa [wi] using hw1
  have Q0 := Lib.hid hw0; have Q1 := Lib.hid hw1; clear hw0 hw1
  have H0 : Hid (W64 p0) := Lib.hid (by unfold W64; omega)
  have H1 : Hid (W64 p1) := Lib.hid (by unfold W64; omega)
  obtain ⟨E1, hE1⟩ : ∃ E, (scansE l).1 = E := ⟨_, rfl⟩
  obtain ⟨E2, hE2⟩ : ∃ E, (scansE l).2 = E := ⟨_, rfl⟩
  have HE1 := Lib.hid hE1; have HE2 := Lib.hid hE2
  clear hE1 hE2
  go_wp2_with (go_at_call 27; refine (bWithin_any _ _ _ _).mono ?_; (first | rw [Q0.out] | rw [Q1.out]); rintro e w1 ⟨rfl, rfl⟩)
  clear Q0 Q1
  go_upto_region 5 with fail
  have HL : Hid (∀ w', Below wc1.heap.size wc1 w' → ScOk l A w.heap.size w') := Lib.hid (fun w' h => hl.below (hBB.trans (h.mono (Below.size hBB))) (Nat.le_refl _))
  have hzw := Below.size hBB
  refine arReg5 l A c w.heap.size level corners HL hzw hle hl8 HNIL HD HSZ b4 _ ?_
  intro t32 t33 t34 t35 t36 t37 t38 A7 c7 B7 As er1 wy hR5 hB7 hBy
  try dsimp only
  clear l_b4 x0 x1 f4 l_b5 y0 y1 f5
  replace b4 := b4.gr hBy
  replace b5 := b5.gr hBy
  replace hBB := hBB.trans (hBy.mono (Below.size hBB))
  have HR5 := Lib.hid hR5
  clear hBy HL hzw hR5
  go_upto_region 6 with fail
  have HL : Hid (∀ w', Below wy.heap.size wy w' → ScOk l A w.heap.size w') := Lib.hid (fun w' h => hl.below (hBB.trans (h.mono (Below.size hBB))) (Nat.le_refl _))
  have hzw := Below.size hBB
  refine arReg6 l A c w.heap.size level corners p0 p1 HL hzw hle hl8 HNIL HD HSZ b4 b5 H0 H1 _ ?_
  intro t39 t40 t41 t42 t43 t44 t45 t46 z9 A9 c9 cs p q v er2 wz hR6 own9 b9 hz9 hBz
  try dsimp only
  replace b4 := b4.gr hBz
  replace b5 := b5.gr hBz
  have HGY : Hid (Below wy.heap.size wy wz) := Lib.hid hBz
  replace hBB := hBB.trans (hBz.mono (Below.size hBB))
  have HR6 := Lib.hid hR6
  have HO9 := Lib.hid own9
  clear hBz HL hzw hR6 own9
  have hJ : GrJ wz wz := ⟨Below.refl _ _⟩
  have l_b9 := b9.lt
  obtain ⟨g0, g1, g2, g3, f9⟩ := blk4 b9
  have l_b4 := b4.lt
  have l_b5 := b5.lt
  have l_b9 := b9.lt
  obtain ⟨x0, x1, f4⟩ := blk2c b4
  obtain ⟨y0, y1, f5⟩ := blk2c b5
  obtain ⟨g0, g1, g2, g3, f9⟩ := blk4 b9
  by_cases he : scanAskE l level = 0
  case neg =>
    have hr5 := HR5.out.resolve_right (fun h => he h.1)
    have hr6 := HR6.out.resolve_right (fun h => he h.1)
    obtain ⟨_, rfl, rfl⟩ := hr5
    obtain ⟨_, rfl, ⟨rfl, rfl, rfl⟩, rfl⟩ := hr6
    obtain ⟨E, hE⟩ : ∃ E, scanAskE l level = E := ⟨_, rfl⟩
    have hs1 := scanAsk_one (l := l) (level := level)
    rw [hE, HE2.out] at hs1
    rw [hE] at he ⊢
    have hne : (E != 0) = true := by simpa using he
    have HS1 := Lib.hid hs1
    clear HR5 HR6 hE hs1
    go_wp2_with fail
    refine (refCheckScans_any l A c w.heap.size _ (hl.below hBB (Nat.le_refl _)) (Below.size hBB)).mono ?_
    rw [HE1.out, HE2.out]
    rintro e wc2 ⟨rfl, hBc2⟩
    replace b4 := b4.gr hBc2
    replace b5 := b5.gr hBc2
    replace b9 := b9.gr hBc2
    replace hJ := hJ.below hBc2 hJ.base
    replace hBB := hBB.trans (Below.mono hBc2 (Below.size hBB))
    clear hBc2
    clear l_b4 x0 x1 f4 l_b5 y0 y1 f5 l_b9 g0 g1 g2 g3 f9
    have l_b4 := b4.lt
    have l_b5 := b5.lt
    have l_b9 := b9.lt
    obtain ⟨x0, x1, f4⟩ := blk2c b4
    obtain ⟨y0, y1, f5⟩ := blk2c b5
    obtain ⟨g0, g1, g2, g3, f9⟩ := blk4 b9
    by_cases h2 : E2 = 0
    · have HLE : Hid (levelE level = E) := Lib.hid (HS1.out.1 h2).symm
      subst h2
      go_wp2_with fail
      refine (refAskErr_any level corners _).mono ?_
      rw [HLE.out]
      rintro e wc3 ⟨rfl, hBc3⟩
      replace b4 := b4.gr hBc3
      replace b5 := b5.gr hBc3
      replace b9 := b9.gr hBc3
      replace hJ := hJ.below hBc3 hJ.base
      replace hBB := hBB.trans (Below.mono hBc3 (Below.size hBB))
      clear hBc3
      clear l_b4 x0 x1 f4 l_b5 y0 y1 f5 l_b9 g0 g1 g2 g3 f9
      have l_b4 := b4.lt
      have l_b5 := b5.lt
      have l_b9 := b9.lt
      obtain ⟨x0, x1, f4⟩ := blk2c b4
      obtain ⟨y0, y1, f5⟩ := blk2c b5
      obtain ⟨g0, g1, g2, g3, f9⟩ := blk4 b9
      go_wp2_with fail
      refine (sameArea_eq (.slice A9 ([] : List (Int × Int)).length c9, []) (.slice none 0 0, []) 0 0 0 wz.heap.size _ ((own_arok (cs := []) HO9.out).below hJ.g (Nat.le_refl _)) ⟨by simp, none, 0, rfl, Row.nil_⟩ rfl hJ.base).mono ?_
      rintro e wc4 ⟨rfl, hBc4⟩
      replace b4 := b4.gr hBc4
      replace b5 := b5.gr hBc4
      replace b9 := b9.gr hBc4
      replace hJ := hJ.below hBc4 hJ.base
      replace hBB := hBB.trans (Below.mono hBc4 (Below.size hBB))
      clear hBc4
      clear l_b4 x0 x1 f4 l_b5 y0 y1 f5 l_b9 g0 g1 g2 g3 f9
      have l_b4 := b4.lt
      have l_b5 := b5.lt
      have l_b9 := b9.lt
      obtain ⟨x0, x1, f4⟩ := blk2c b4
      obtain ⟨y0, y1, f5⟩ := blk2c b5
      obtain ⟨g0, g1, g2, g3, f9⟩ := blk4 b9
      go_wp2
      go_ret
      exact ⟨by first | rfl | (simp; done), hBB⟩
    · obtain rfl := HS1.out.2 h2
      have h2' : (E == 0) = false := by simpa using h2
      go_wp2_with fail
      refine (sameArea_eq (.slice A9 ([] : List (Int × Int)).length c9, []) (.slice none 0 0, []) 0 0 0 wz.heap.size _ ((own_arok (cs := []) HO9.out).below hJ.g (Nat.le_refl _)) ⟨by simp, none, 0, rfl, Row.nil_⟩ rfl hJ.base).mono ?_
      rintro e wc5 ⟨rfl, hBc5⟩
      replace b4 := b4.gr hBc5
      replace b5 := b5.gr hBc5
      replace b9 := b9.gr hBc5
      replace hJ := hJ.below hBc5 hJ.base
      replace hBB := hBB.trans (Below.mono hBc5 (Below.size hBB))
      clear hBc5
      clear l_b4 x0 x1 f4 l_b5 y0 y1 f5 l_b9 g0 g1 g2 g3 f9
      have l_b4 := b4.lt
      have l_b5 := b5.lt
      have l_b9 := b9.lt
      obtain ⟨x0, x1, f4⟩ := blk2c b4
      obtain ⟨y0, y1, f5⟩ := blk2c b5
      obtain ⟨g0, g1, g2, g3, f9⟩ := blk4 b9
      go_wp2
      go_ret
      exact ⟨by first | rfl | (simp; done), hBB⟩
  case pos =>
    obtain ⟨_, rfl, P, hAr⟩ := HR5.out.resolve_left (fun h => h.1 he)
    have hAt := (HR6.out.resolve_left (fun h => h.1 he)).2
    have HAR := Lib.hid (hAr.below HGY.out hB7)
    have HAT := Lib.hid hAt
    have hz := scanAsk_zero he
    have hs := scansE_zero hz.1
    have HG : Hid (∀ s ∈ l, ScGood s) := Lib.hid hs.2
    have hl6 := hs.1
    have hlv : 0 ≤ level := by have := level_ok hz.2; simp [wi] at this; omega
    have HLE : Hid (levelE level = 0) := Lib.hid hz.2
    obtain rfl : E2 = 0 := HE2.out.symm.trans hz.1
    clear HR5 HR6 hAr hAt hz hs he
    go_wp2_with fail
    refine (refCheckScans_any l A c w.heap.size _ (hl.below hBB (Nat.le_refl _)) (Below.size hBB)).mono ?_
    rw [HE1.out, HE2.out]
    rintro e wc6 ⟨rfl, hBc6⟩
    replace b4 := b4.gr hBc6
    replace b5 := b5.gr hBc6
    replace b9 := b9.gr hBc6
    replace hJ := hJ.below hBc6 hJ.base
    replace hBB := hBB.trans (Below.mono hBc6 (Below.size hBB))
    clear hBc6
    clear l_b4 x0 x1 f4 l_b5 y0 y1 f5 l_b9 g0 g1 g2 g3 f9
    have l_b4 := b4.lt
    have l_b5 := b5.lt
    have l_b9 := b9.lt
    obtain ⟨x0, x1, f4⟩ := blk2c b4
    obtain ⟨y0, y1, f5⟩ := blk2c b5
    obtain ⟨g0, g1, g2, g3, f9⟩ := blk4 b9
    go_wp2_with fail
    refine (refAskErr_any level corners _).mono ?_
    rw [HLE.out]
    rintro e wc7 ⟨rfl, hBc7⟩
    replace b4 := b4.gr hBc7
    replace b5 := b5.gr hBc7
    replace b9 := b9.gr hBc7
    replace hJ := hJ.below hBc7 hJ.base
    replace hBB := hBB.trans (Below.mono hBc7 (Below.size hBB))
    clear hBc7
    clear l_b4 x0 x1 f4 l_b5 y0 y1 f5 l_b9 g0 g1 g2 g3 f9
    have l_b4 := b4.lt
    have l_b5 := b5.lt
    have l_b9 := b9.lt
    obtain ⟨x0, x1, f4⟩ := blk2c b4
    obtain ⟨y0, y1, f5⟩ := blk2c b5
    obtain ⟨g0, g1, g2, g3, f9⟩ := blk4 b9
    go_wp2_with fail
    refine (refAtAny l A c w.heap.size level corners p0 p1 _ (hl.below hBB (Nat.le_refl _)) (Below.size hBB) HG hlv hl6 (by omega) (by omega)).mono ?_
    rintro e wc8 ⟨A13, c13, cs', p', q', v', er', rfl, hAt', own13, hBc8⟩
    replace b4 := b4.gr hBc8
    replace b5 := b5.gr hBc8
    replace b9 := b9.gr hBc8
    replace hJ := hJ.below hBc8 hJ.base
    replace hBB := hBB.trans (Below.mono hBc8 (Below.size hBB))
    clear hBc8
    clear l_b4 x0 x1 f4 l_b5 y0 y1 f5 l_b9 g0 g1 g2 g3 f9
    have l_b4 := b4.lt
    have l_b5 := b5.lt
    have l_b9 := b9.lt
    obtain ⟨x0, x1, f4⟩ := blk2c b4
    obtain ⟨y0, y1, f5⟩ := blk2c b5
    obtain ⟨g0, g1, g2, g3, f9⟩ := blk4 b9
    have HO13 := Lib.hid own13
    have hK2 : GrJ wc8 wc8 := ⟨Below.refl _ _⟩
    have hu := hAt'.uniq (HAR.out.pls) HAT.out
    obtain ⟨rfl, ⟨rfl, rfl, rfl⟩, rfl⟩ := hu
    clear own13 hAt'
    have b13 := Blk.new wc8 91 #[.slice A13 cs'.length c13, .int .i64 p', .int .i64 q', .int .i64 v']
    replace b4 := b4.alloc (.cells #[.slice A13 cs'.length c13, .int .i64 p', .int .i64 q', .int .i64 v'] 91 (0, 0))
    replace b5 := b5.alloc (.cells #[.slice A13 cs'.length c13, .int .i64 p', .int .i64 q', .int .i64 v'] 91 (0, 0))
    replace b9 := b9.alloc (.cells #[.slice A13 cs'.length c13, .int .i64 p', .int .i64 q', .int .i64 v'] 91 (0, 0))
    replace hJ := hJ.below ((Below.refl _ _).alloc (Nat.le_refl _) (.cells #[.slice A13 cs'.length c13, .int .i64 p', .int .i64 q', .int .i64 v'] 91 (0, 0))) hJ.base
    replace hK2 := hK2.below ((Below.refl _ _).alloc (Nat.le_refl _) (.cells #[.slice A13 cs'.length c13, .int .i64 p', .int .i64 q', .int .i64 v'] 91 (0, 0))) hK2.base
    replace hBB := hBB.alloc (Below.size hBB) (.cells #[.slice A13 cs'.length c13, .int .i64 p', .int .i64 q', .int .i64 v'] 91 (0, 0))
    clear l_b4 x0 x1 f4 l_b5 y0 y1 f5 l_b9 g0 g1 g2 g3 f9
    have l_b4 := b4.lt
    have l_b5 := b5.lt
    have l_b9 := b9.lt
    have l_b13 := b13.lt
    obtain ⟨x0, x1, f4⟩ := blk2c b4
    obtain ⟨y0, y1, f5⟩ := blk2c b5
    obtain ⟨g0, g1, g2, g3, f9⟩ := blk4 b9
    obtain ⟨k0, k1, k2, k3, f13⟩ := blk4 b13
    go_wp2_with fail
    refine (refAreas_any l A c w.heap.size level corners _ (hl.below hBB (Nat.le_refl _)) (Below.size hBB) HG hlv hl6).mono ?_
    rintro e wc9 ⟨A9', c9', P', As', rfl, hP', hAs', hA', hR', hBc9⟩
    replace b4 := b4.gr hBc9
    replace b5 := b5.gr hBc9
    replace b9 := b9.gr hBc9
    replace b13 := b13.gr hBc9
    replace hJ := hJ.below hBc9 hJ.base
    replace hK2 := hK2.below hBc9 hK2.base
    replace hBB := hBB.trans (Below.mono hBc9 (Below.size hBB))
    clear hBc9
    clear l_b4 x0 x1 f4 l_b5 y0 y1 f5 l_b9 g0 g1 g2 g3 f9 l_b13 k0 k1 k2 k3 f13
    have l_b4 := b4.lt
    have l_b5 := b5.lt
    have l_b9 := b9.lt
    have l_b13 := b13.lt
    obtain ⟨x0, x1, f4⟩ := blk2c b4
    obtain ⟨y0, y1, f5⟩ := blk2c b5
    obtain ⟨g0, g1, g2, g3, f9⟩ := blk4 b9
    obtain ⟨k0, k1, k2, k3, f13⟩ := blk4 b13
    have HMAP : Hid (As.map (·.2) = As'.map (·.2)) := Lib.hid (by
      obtain ⟨Bs, rfl, h1⟩ := HAR.out.ars
      rw [hAs', hP'.eq HAR.out.pls, List.map_map]
      exact h1.areas HAR.out.pls)
    have HA' := Lib.hid hA'
    clear hP' hAs' hA' hR'
    go_wp2_with fail
    refine (sameAreas_eq (atV l) As As' A7 A9' c7 c9' _ _ ((HAR.out.ok.below hJ.g (Nat.le_trans hB7 (Below.size HGY.out))).more (Nat.le_trans (Nat.le_trans hB7 (Below.size HGY.out)) hJ.base)) HA'.out HMAP.out (Nat.le_refl _)).mono ?_
    rintro e wc10 ⟨rfl, hBc10⟩
    replace b4 := b4.gr hBc10
    replace b5 := b5.gr hBc10
    replace b9 := b9.gr hBc10
    replace b13 := b13.gr hBc10
    replace hJ := hJ.below hBc10 hJ.base
    replace hK2 := hK2.below hBc10 hK2.base
    replace hBB := hBB.trans (Below.mono hBc10 (Below.size hBB))
    clear hBc10
    clear l_b4 x0 x1 f4 l_b5 y0 y1 f5 l_b9 g0 g1 g2 g3 f9 l_b13 k0 k1 k2 k3 f13
    have l_b4 := b4.lt
    have l_b5 := b5.lt
    have l_b9 := b9.lt
    have l_b13 := b13.lt
    obtain ⟨x0, x1, f4⟩ := blk2c b4
    obtain ⟨y0, y1, f5⟩ := blk2c b5
    obtain ⟨g0, g1, g2, g3, f9⟩ := blk4 b9
    obtain ⟨k0, k1, k2, k3, f13⟩ := blk4 b13
    go_wp2_with fail
    refine (sameArea_eq (.slice A9 cs'.length c9, cs') (.slice A13 cs'.length c13, cs') p' q' v' wc10.heap.size _ (((own_arok HO9.out).below hJ.g (Nat.le_refl _)).more hJ.base) (((own_arok HO13.out).below hK2.g (Nat.le_refl _)).more hK2.base) rfl (Nat.le_refl _)).mono ?_
    rintro e wc11 ⟨rfl, hBc11⟩
    replace b4 := b4.gr hBc11
    replace b5 := b5.gr hBc11
    replace b9 := b9.gr hBc11
    replace b13 := b13.gr hBc11
    replace hJ := hJ.below hBc11 hJ.base
    replace hK2 := hK2.below hBc11 hK2.base
    replace hBB := hBB.trans (Below.mono hBc11 (Below.size hBB))
    clear hBc11
    clear l_b4 x0 x1 f4 l_b5 y0 y1 f5 l_b9 g0 g1 g2 g3 f9 l_b13 k0 k1 k2 k3 f13
    have l_b4 := b4.lt
    have l_b5 := b5.lt
    have l_b9 := b9.lt
    have l_b13 := b13.lt
    obtain ⟨x0, x1, f4⟩ := blk2c b4
    obtain ⟨y0, y1, f5⟩ := blk2c b5
    obtain ⟨g0, g1, g2, g3, f9⟩ := blk4 b9
    obtain ⟨k0, k1, k2, k3, f13⟩ := blk4 b13
    go_wp2
    go_ret
    exact ⟨by first | rfl | (simp; done), hBB⟩
end Go.Proofs.YtidgeagpgllkeaaGreat
