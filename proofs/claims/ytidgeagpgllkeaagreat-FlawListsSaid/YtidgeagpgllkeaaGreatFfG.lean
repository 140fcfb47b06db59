/- The law FlawLists answers true. -/
import Derived.Test.YtidgeagpgllkeaaGreatFfE
import Derived.Test.YtidgeagpgllkeaaGreatFfD
import Derived.Test.YtidgeagpgllkeaaGreatFfB
namespace Go.Proofs.YtidgeagpgllkeaaGreat
open Go.RowKit

theorem hull_idem (m : Mk) : hullV m m = m := by cases m; simp [hullV]
theorem hullP_numsTo (l : List Mk) (h : 0 < l.length) : hullP l l.length = hullR l (numsTo l.length) := by
  have key : ∀ (n : Nat) (o : Mk), n ≤ l.length → (l.take n).foldl hullV o = (numsTo n).foldl (fun o j => hullV o (l[j.toNat]?.getD o)) o := by
    intro n
    induction n with
    | zero => intro o _; rfl
    | succ n ih =>
      intro o hn
      have e : numsTo (n + 1) = numsTo n ++ [(n : Int)] := by simp [numsTo, List.range_succ]
      rw [List.take_succ_eq_append_getElem (show n < l.length by omega), e, List.foldl_append, List.foldl_append, ih o (by omega)]
      simp [List.getElem?_eq_getElem (show n < l.length by omega)]
  unfold hullP
  rw [key l.length _ (Nat.le_refl _)]
  have e0 : ∃ t, numsTo l.length = 0 :: t := by
    obtain ⟨n, hn⟩ : ∃ n, l.length = n + 1 := ⟨l.length - 1, by omega⟩
    rw [hn]
    exact ⟨_, by simp [numsTo, List.range_succ_eq_map]; rfl⟩
  obtain ⟨t, ht⟩ := e0
  rw [ht]
  unfold hullR
  simp only [List.foldl_cons, Int.toNat_zero, List.getElem?_eq_getElem h, Option.getD_some]
  rw [hull_idem]
theorem own_row {w : World} {base e size n : Nat} {v : Value} {xs : List Value} (h : w.ownsRow base e size v n xs) : ∃ A cap, v = .slice A n cap ∧ Row w w.heap.size size A n xs := by
  rcases h.2 with ⟨rfl, h0⟩ | ⟨g, cap, cur, rfl, hb, hh, _⟩
  · subst h0
    obtain rfl : xs = [] := List.eq_nil_of_length_eq_zero (by have := h.1; simpa using this)
    exact ⟨none, 0, rfl, Row.nil_⟩
  · refine ⟨_, cap, rfl, h.1, fun hn => ⟨g, 0, rfl, (Array.getElem?_eq_some_iff.1 hh).1, fun j u hj => ?_⟩⟩
    have := h.cells (g := g) rfl j u hj
    rwa [Addr.add_lit] at this
def listD (l : List Mk) : Int := if (marksE l).2 = 0 ∧ l.length = 0 then 10 else (marksE l).2
theorem hullE_err (l : List Mk) : (hullE l).2 = listD l ∧ (listD l ≠ 0 → (hullE l).1 = mk0) ∧ (listD l = 0 → 0 < l.length ∧ (hullE l).1 = hullR l (numsTo l.length)) := by
  unfold hullE listD firstE firstE unlessE
  by_cases h1 : (marksE l).2 = 0
  · by_cases h2 : l.length = 0
    · simp [h1, h2, firstE]
    · have h3 : 0 < l.length := by omega
      simp [h1, h2, h3, firstE, hullP_numsTo l h3]
  · simp [h1, firstE]

set_option maxRecDepth 100000 in
set_option maxHeartbeats 4000000 in
theorem flawLists_any (l : List Mk) (A : Option Addr) (c : Nat) (w : World) (hn : l.length ≤ 9223372036854775807) (hR : Row w w.heap.size 6 A l.length (mksC l)) (hsz : Hid (∀ m ∈ l, m.nm.size ≤ 9223372036854775807)) (hc : l.length ≤ c) (hA : A = none → c = 0) :
    Calls Tryz.prog 12 #[.slice A l.length c] w fun e w' => e = .returned (.bool true) ∧ Below w.heap.size w w' := by
  have HA := Lib.hid hA; clear hA
  go_enter Tryz.func12, Tryz.ntmps12
  go_wp2_with fail
  refine (awake_any _).mono ?_
  rintro e w1 ⟨rfl, hBB⟩
  go_wp2_with fail
  refine (marks_any l A c w.heap.size _ hn (hR.below hBB (Nat.le_refl _)) hsz (Below.size hBB)).mono ?_
  rintro e w2 ⟨rfl, hB2⟩
  replace hBB := hBB.trans (Below.mono hB2 (Below.size hBB))
  clear hB2
  cases hm : marksB l
  · go_wp2
    go_ret
    exact ⟨rfl, hBB⟩
  · obtain ⟨hl22, hs20⟩ := marksB_true hm
    have hl : MkOk l A w.heap.size w := ⟨by omega, hR, fun m h => by have := hs20 m h; omega⟩
    clear hm
    obtain ⟨he1, he2, he3⟩ := hullE_err l
    have HE2 := Lib.hid he2
    have HE3 := Lib.hid he3
    have HSZ := Lib.hid hl.size
    have HD : Hid (((marksE l).2 ≠ 0 → listD l = (marksE l).2) ∧ ((marksE l).2 = 0 → l.length = 0 → listD l = 10) ∧ ((marksE l).2 = 0 → l.length ≠ 0 → listD l = (marksE l).2)) := Lib.hid ⟨fun h => by simp [listD, h], fun h h' => by simp [listD, h, h'], fun h h' => by simp [listD, h']⟩
    clear he2 he3
    go_wp2_with fail
    refine (copyMarks_any l A c w.heap.size _ (hl.below hBB (Nat.le_refl _)) hc (Below.size hBB) HA.out).mono ?_
    rintro e w3 ⟨v3, rfl, own3, hB3⟩
    replace hBB := hBB.trans (Below.mono hB3 (Below.size hBB))
    obtain ⟨A3, c3, rfl, hl3, hc3⟩ := copied own3 (by omega) HSZ.out
    clear hB3 own3
    go_wp2_with fail
    refine (checkMarks_any l A3 c3 _ _ hl3 hc3 (Nat.le_refl _)).mono ?_
    rintro e w4 ⟨rfl, hB4⟩
    replace hBB := hBB.trans (Below.mono hB4 (Below.size hBB))
    clear hB4 hl3 hc3
    go_wp2_with fail
    refine (copyMarks_any l A c w.heap.size _ (hl.below hBB (Nat.le_refl _)) hc (Below.size hBB) HA.out).mono ?_
    rintro e w5 ⟨v5, rfl, own5, hB5⟩
    replace hBB := hBB.trans (Below.mono hB5 (Below.size hBB))
    obtain ⟨A5, c5, rfl, hl5, hc5⟩ := copied own5 (by omega) HSZ.out
    clear hB5 own5
    go_wp2_with fail
    refine (hullOf_any l A5 c5 _ _ hl5 hc5 (Nat.le_refl _)).mono ?_
    rw [he1]
    obtain ⟨H, hH⟩ : ∃ H, (hullE l).1 = H := ⟨_, rfl⟩
    rw [hH] at HE2 HE3 ⊢
    clear hH he1
    rintro e w6 ⟨rfl, hB6⟩
    replace hBB := hBB.trans (Below.mono hB6 (Below.size hBB))
    clear hB6 hl5 hc5
    go_upto_region 7 with fail
    have b5 := Blk.new w6 79 (mkC H)
    replace hBB := hBB.alloc (Below.size hBB) (.cells (mkC H) 79 (0, 0))
    have l_b5 := b5.lt
    obtain ⟨d0, d1, d2, d3, d4, d5, f5⟩ := blk6 b5
    generalize hNN : w6.heap.size = N at *
    generalize (w6.alloc (.cells (mkC H) 79)) = wx at *
    go_wp2_with fail
    refine (refCheckMarks_any l A c w.heap.size _ (hl.below hBB (Nat.le_refl _)) (Below.size hBB)).mono ?_
    rintro e wc1 ⟨rfl, hBc1⟩
    replace b5 := b5.gr hBc1
    replace hBB := hBB.trans (Below.mono hBc1 (Below.size hBB))
    clear hBc1
    clear l_b5 d0 d1 d2 d3 d4 d5 f5
    have l_b5 := b5.lt
    obtain ⟨d0, d1, d2, d3, d4, d5, f5⟩ := blk6 b5
    obtain ⟨D, hD⟩ : ∃ D, listD l = D := ⟨_, rfl⟩
    rw [hD] at HE2 HE3 HD ⊢
    clear hD
    obtain ⟨E1, hE1⟩ : ∃ E, (marksE l).1 = E := ⟨_, rfl⟩
    obtain ⟨E2, hE2⟩ : ∃ E, (marksE l).2 = E := ⟨_, rfl⟩
    rw [hE1, hE2]
    rw [hE2] at HD
    clear hE1 hE2
    have hq0 := eq_mark_same mk0
    by_cases h0 : E2 = 0
    · subst h0
      by_cases h1 : l.length = 0
      · have hX := HD.out.2.1 rfl h1
        subst hX
        have hY := HE2.out (by decide)
        subst hY
        have h1' : ((l.length : Int) == 0) = true := by simpa using h1
        go_wp2
        go_ret
        exact ⟨rfl, hBB⟩
      · have hX := HD.out.2.2 rfl h1
        subst hX
        have h1' : ((l.length : Int) == 0) = false := by simpa using h1
        obtain ⟨hpos, rfl⟩ := HE3.out (by trivial)
        have hq := eq_mark_same (hullR l (numsTo l.length))
        have HNB : Hid (∀ i ∈ numsTo l.length, 0 ≤ i ∧ i < (l.length : Int)) := Lib.hid (fun i hi => mem_numsTo.1 hi)
        have HNL : Hid ((numsTo l.length).length = l.length) := Lib.hid (by simp [numsTo])
        clear HD HE2 HE3 hq0
        generalize hRR : hullR l (numsTo l.length) = R at *
        have HRR := Lib.hid hRR
        clear hRR
        go_upto_region 14 with fail
        have HL : Hid (∀ w', Below wc1.heap.size wc1 w' → MkOk l A w.heap.size w') := Lib.hid (fun w' h => hl.below (hBB.trans (h.mono (Below.size hBB))) (Nat.le_refl _))
        have hzw := Below.size hBB
        refine wp_region_w (Gr _) (by kernel_rfl) (Below.refl _ _).drew ?_
        refine wpW_det (t' := ?ct0R38) 0 (by rfl) (by kernel_rfl) (NQ_free _) (by kernel_rfl) ?cw0R38 ?ch0R38 ?ca0R38 (Eq.refl _) ?cH0R38
        case cw0R38 => (go_simp; done)
        case ch0R38 =>
          intro ds w' hS K hK
          have hc := (bcell hS).1
          have hf := (bcell hS).2
          have hz := hS.size
          try simp at hz
          go_simp
          try go_bits
          first
            | exact hK _ hS (Gr.refl _)
            | exact hK _ (by repeat (first | (with_reducible exact Below.refl _ _) | (with_reducible assumption) | ((with_reducible refine Below.setCell ?_ ?_ _); rotate_left; · (first | exact Nat.le_refl _ | (simp; done) | (simp; omega) | omega)) | ((with_reducible refine Below.alloc ?_ ?_ _); rotate_left; · (first | exact Nat.le_refl _ | (simp; done) | (simp; omega) | omega)) | (with_reducible apply Below.drew) | (with_reducible apply below_drewN') | (refine Below.trans ?_ (Below.mono (by assumption) (by first | exact Nat.le_refl _ | (simp; done) | (simp; omega) | omega))) | exact Below.refl _ _ | assumption)) (by repeat (first | (with_reducible exact Below.refl _ _) | (with_reducible assumption) | ((with_reducible refine Below.setCell ?_ ?_ _); rotate_left; · (first | exact Nat.le_refl _ | (simp; done) | (simp; omega) | omega)) | ((with_reducible refine Below.alloc ?_ ?_ _); rotate_left; · (first | exact Nat.le_refl _ | (simp; done) | (simp; omega) | omega)) | (with_reducible apply Below.drew) | (with_reducible apply below_drewN') | (refine Below.trans ?_ (Below.mono (by assumption) (by first | exact Nat.le_refl _ | (simp; done) | (simp; omega) | omega))) | exact Below.refl _ _ | assumption))
        case ca0R38 => (first | (simp [Act.put]; done) | (simp [Act.put, *]; done))
        try dsimp only
        refine wpW_det (t' := ?ct1R38) 1 (by rfl) (by kernel_rfl) (NQ_free _) (by kernel_rfl) ?cw1R38 ?ch1R38 ?ca1R38 (Eq.refl _) ?cH1R38
        case cw1R38 => (go_simp; done)
        case ch1R38 =>
          intro ds w' hS K hK
          have hc := (bcell hS).1
          have hf := (bcell hS).2
          have hz := hS.size
          try simp at hz
          go_simp
          try go_bits
          first
            | exact hK _ hS (Gr.refl _)
            | exact hK _ (by repeat (first | (with_reducible exact Below.refl _ _) | (with_reducible assumption) | ((with_reducible refine Below.setCell ?_ ?_ _); rotate_left; · (first | exact Nat.le_refl _ | (simp; done) | (simp; omega) | omega)) | ((with_reducible refine Below.alloc ?_ ?_ _); rotate_left; · (first | exact Nat.le_refl _ | (simp; done) | (simp; omega) | omega)) | (with_reducible apply Below.drew) | (with_reducible apply below_drewN') | (refine Below.trans ?_ (Below.mono (by assumption) (by first | exact Nat.le_refl _ | (simp; done) | (simp; omega) | omega))) | exact Below.refl _ _ | assumption)) (by repeat (first | (with_reducible exact Below.refl _ _) | (with_reducible assumption) | ((with_reducible refine Below.setCell ?_ ?_ _); rotate_left; · (first | exact Nat.le_refl _ | (simp; done) | (simp; omega) | omega)) | ((with_reducible refine Below.alloc ?_ ?_ _); rotate_left; · (first | exact Nat.le_refl _ | (simp; done) | (simp; omega) | omega)) | (with_reducible apply Below.drew) | (with_reducible apply below_drewN') | (refine Below.trans ?_ (Below.mono (by assumption) (by first | exact Nat.le_refl _ | (simp; done) | (simp; omega) | omega))) | exact Below.refl _ _ | assumption))
        case ca1R38 => (first | (simp [Act.put]; done) | (simp [Act.put, *]; done))
        try dsimp only
        refine wpW_det (t' := ?ct2R38) 2 (by rfl) (by kernel_rfl) (NQ_free _) (by kernel_rfl) ?cw2R38 ?ch2R38 ?ca2R38 (Eq.refl _) ?cH2R38
        case cw2R38 => (go_simp; done)
        case ch2R38 =>
          intro ds w' hS K hK
          have hc := (bcell hS).1
          have hf := (bcell hS).2
          have hz := hS.size
          try simp at hz
          go_simp
          try go_bits
          first
            | exact hK _ hS (Gr.refl _)
            | exact hK _ (by repeat (first | (with_reducible exact Below.refl _ _) | (with_reducible assumption) | ((with_reducible refine Below.setCell ?_ ?_ _); rotate_left; · (first | exact Nat.le_refl _ | (simp; done) | (simp; omega) | omega)) | ((with_reducible refine Below.alloc ?_ ?_ _); rotate_left; · (first | exact Nat.le_refl _ | (simp; done) | (simp; omega) | omega)) | (with_reducible apply Below.drew) | (with_reducible apply below_drewN') | (refine Below.trans ?_ (Below.mono (by assumption) (by first | exact Nat.le_refl _ | (simp; done) | (simp; omega) | omega))) | exact Below.refl _ _ | assumption)) (by repeat (first | (with_reducible exact Below.refl _ _) | (with_reducible assumption) | ((with_reducible refine Below.setCell ?_ ?_ _); rotate_left; · (first | exact Nat.le_refl _ | (simp; done) | (simp; omega) | omega)) | ((with_reducible refine Below.alloc ?_ ?_ _); rotate_left; · (first | exact Nat.le_refl _ | (simp; done) | (simp; omega) | omega)) | (with_reducible apply Below.drew) | (with_reducible apply below_drewN') | (refine Below.trans ?_ (Below.mono (by assumption) (by first | exact Nat.le_refl _ | (simp; done) | (simp; omega) | omega))) | exact Below.refl _ _ | assumption))
        case ca2R38 => (first | (simp [Act.put]; done) | (simp [Act.put, *]; done))
        try dsimp only
        refine wpW_det (t' := ?ct3R38) 3 (by rfl) (by kernel_rfl) (NQ_free _) (by kernel_rfl) ?cw3R38 ?ch3R38 ?ca3R38 (Eq.refl _) ?cH3R38
        case cw3R38 => (go_simp; done)
        case ch3R38 =>
          intro ds w' hS K hK
          have hc := (bcell hS).1
          have hf := (bcell hS).2
          have hz := hS.size
          try simp at hz
          go_simp
          try go_bits
          first
            | exact hK _ hS (Gr.refl _)
            | exact hK _ (by repeat (first | (with_reducible exact Below.refl _ _) | (with_reducible assumption) | ((with_reducible refine Below.setCell ?_ ?_ _); rotate_left; · (first | exact Nat.le_refl _ | (simp; done) | (simp; omega) | omega)) | ((with_reducible refine Below.alloc ?_ ?_ _); rotate_left; · (first | exact Nat.le_refl _ | (simp; done) | (simp; omega) | omega)) | (with_reducible apply Below.drew) | (with_reducible apply below_drewN') | (refine Below.trans ?_ (Below.mono (by assumption) (by first | exact Nat.le_refl _ | (simp; done) | (simp; omega) | omega))) | exact Below.refl _ _ | assumption)) (by repeat (first | (with_reducible exact Below.refl _ _) | (with_reducible assumption) | ((with_reducible refine Below.setCell ?_ ?_ _); rotate_left; · (first | exact Nat.le_refl _ | (simp; done) | (simp; omega) | omega)) | ((with_reducible refine Below.alloc ?_ ?_ _); rotate_left; · (first | exact Nat.le_refl _ | (simp; done) | (simp; omega) | omega)) | (with_reducible apply Below.drew) | (with_reducible apply below_drewN') | (refine Below.trans ?_ (Below.mono (by assumption) (by first | exact Nat.le_refl _ | (simp; done) | (simp; omega) | omega))) | exact Below.refl _ _ | assumption))
        case ca3R38 => (first | (simp [Act.put]; done) | (simp [Act.put, *]; done))
        try dsimp only
        refine wpW_det (t' := ?ct4R38) 4 (by rfl) (by kernel_rfl) (NQ_free _) (by kernel_rfl) ?cw4R38 ?ch4R38 ?ca4R38 (Eq.refl _) ?cH4R38
        case cw4R38 => (go_simp; done)
        case ch4R38 =>
          intro ds w' hS K hK
          have hc := (bcell hS).1
          have hf := (bcell hS).2
          have hz := hS.size
          try simp at hz
          go_simp
          try go_bits
          first
            | exact hK _ hS (Gr.refl _)
            | exact hK _ (by repeat (first | (with_reducible exact Below.refl _ _) | (with_reducible assumption) | ((with_reducible refine Below.setCell ?_ ?_ _); rotate_left; · (first | exact Nat.le_refl _ | (simp; done) | (simp; omega) | omega)) | ((with_reducible refine Below.alloc ?_ ?_ _); rotate_left; · (first | exact Nat.le_refl _ | (simp; done) | (simp; omega) | omega)) | (with_reducible apply Below.drew) | (with_reducible apply below_drewN') | (refine Below.trans ?_ (Below.mono (by assumption) (by first | exact Nat.le_refl _ | (simp; done) | (simp; omega) | omega))) | exact Below.refl _ _ | assumption)) (by repeat (first | (with_reducible exact Below.refl _ _) | (with_reducible assumption) | ((with_reducible refine Below.setCell ?_ ?_ _); rotate_left; · (first | exact Nat.le_refl _ | (simp; done) | (simp; omega) | omega)) | ((with_reducible refine Below.alloc ?_ ?_ _); rotate_left; · (first | exact Nat.le_refl _ | (simp; done) | (simp; omega) | omega)) | (with_reducible apply Below.drew) | (with_reducible apply below_drewN') | (refine Below.trans ?_ (Below.mono (by assumption) (by first | exact Nat.le_refl _ | (simp; done) | (simp; omega) | omega))) | exact Below.refl _ _ | assumption))
        case ca4R38 => (first | (simp [Act.put]; done) | (simp [Act.put, *]; done))
        try dsimp only
        refine wpW_det (t' := ?ct5R38) 5 (by rfl) (by kernel_rfl) (NQ_free _) (by kernel_rfl) ?cw5R38 ?ch5R38 ?ca5R38 (Eq.refl _) ?cH5R38
        case cw5R38 => (go_simp; done)
        case ch5R38 =>
          intro ds w' hS K hK
          have hc := (bcell hS).1
          have hf := (bcell hS).2
          have hz := hS.size
          try simp at hz
          go_simp
          try go_bits
          first
            | exact hK _ hS (Gr.refl _)
            | exact hK _ (by repeat (first | (with_reducible exact Below.refl _ _) | (with_reducible assumption) | ((with_reducible refine Below.setCell ?_ ?_ _); rotate_left; · (first | exact Nat.le_refl _ | (simp; done) | (simp; omega) | omega)) | ((with_reducible refine Below.alloc ?_ ?_ _); rotate_left; · (first | exact Nat.le_refl _ | (simp; done) | (simp; omega) | omega)) | (with_reducible apply Below.drew) | (with_reducible apply below_drewN') | (refine Below.trans ?_ (Below.mono (by assumption) (by first | exact Nat.le_refl _ | (simp; done) | (simp; omega) | omega))) | exact Below.refl _ _ | assumption)) (by repeat (first | (with_reducible exact Below.refl _ _) | (with_reducible assumption) | ((with_reducible refine Below.setCell ?_ ?_ _); rotate_left; · (first | exact Nat.le_refl _ | (simp; done) | (simp; omega) | omega)) | ((with_reducible refine Below.alloc ?_ ?_ _); rotate_left; · (first | exact Nat.le_refl _ | (simp; done) | (simp; omega) | omega)) | (with_reducible apply Below.drew) | (with_reducible apply below_drewN') | (refine Below.trans ?_ (Below.mono (by assumption) (by first | exact Nat.le_refl _ | (simp; done) | (simp; omega) | omega))) | exact Below.refl _ _ | assumption))
        case ca5R38 => (first | (simp [Act.put]; done) | (simp [Act.put, *]; done))
        try dsimp only
        refine wpW_det (t' := ?ct6R38) 6 (by rfl) (by kernel_rfl) (NQ_free _) (by kernel_rfl) ?cw6R38 ?ch6R38 ?ca6R38 (Eq.refl _) ?cH6R38
        case cw6R38 => (go_simp; done)
        case ch6R38 =>
          intro ds w' hS K hK
          have hc := (bcell hS).1
          have hf := (bcell hS).2
          have hz := hS.size
          try simp at hz
          go_simp
          try go_bits
          first
            | exact hK _ hS (Gr.refl _)
            | exact hK _ (by repeat (first | (with_reducible exact Below.refl _ _) | (with_reducible assumption) | ((with_reducible refine Below.setCell ?_ ?_ _); rotate_left; · (first | exact Nat.le_refl _ | (simp; done) | (simp; omega) | omega)) | ((with_reducible refine Below.alloc ?_ ?_ _); rotate_left; · (first | exact Nat.le_refl _ | (simp; done) | (simp; omega) | omega)) | (with_reducible apply Below.drew) | (with_reducible apply below_drewN') | (refine Below.trans ?_ (Below.mono (by assumption) (by first | exact Nat.le_refl _ | (simp; done) | (simp; omega) | omega))) | exact Below.refl _ _ | assumption)) (by repeat (first | (with_reducible exact Below.refl _ _) | (with_reducible assumption) | ((with_reducible refine Below.setCell ?_ ?_ _); rotate_left; · (first | exact Nat.le_refl _ | (simp; done) | (simp; omega) | omega)) | ((with_reducible refine Below.alloc ?_ ?_ _); rotate_left; · (first | exact Nat.le_refl _ | (simp; done) | (simp; omega) | omega)) | (with_reducible apply Below.drew) | (with_reducible apply below_drewN') | (refine Below.trans ?_ (Below.mono (by assumption) (by first | exact Nat.le_refl _ | (simp; done) | (simp; omega) | omega))) | exact Below.refl _ _ | assumption))
        case ca6R38 => (first | (simp [Act.put]; done) | (simp [Act.put, *]; done))
        try dsimp only
        refine wpW_branch [7] (by kernel_rfl) (by simp) ?_
        intro wr1 hg_wr1 hS_wr1
        refine each_cons ?_ each_nil
        refine wpOp_go (by rfl) (Eq.refl _) (by go_simp; done) ?_
        intro K hK
        go_simp
        try simp only [Act.put]
        refine (numbers_any l.length (by omega) _).mono ?_
        rintro e ws1 ⟨vn, rfl, own, hBs⟩
        obtain ⟨An, cn, rfl, hrow⟩ := own_row own
        refine hK _ _ (Below.trans hS_wr1 (hBs.mono (Below.size hS_wr1))) ?_
        clear hK K own hBs
        refine wpW_branch [8] (by kernel_rfl) (by simp) ?_
        intro wr2 hg_wr2 hS_wr2
        refine each_cons ?_ each_nil
        refine wpOp_go (by rfl) (Eq.refl _) (by go_simp; done) ?_
        intro K hK
        go_simp
        try simp only [Act.put]
        have hrow2 := hrow.below hg_wr2 (Nat.le_refl _)
        have hhu := refHullOf_any l A c w.heap.size (numsTo l.length) An cn ws1.heap.size wr2 (HL.out wr2 hS_wr2) (by have := Below.size hS_wr2; omega) (by rw [HNL.out]; exact hrow2) (Below.size hg_wr2) (by rw [HNL.out]; omega) (by rw [HNL.out]; omega) HNB
        rw [HNL.out, HRR.out] at hhu
        refine hhu.mono ?_
        rintro e ws2 ⟨rfl, hBs⟩
        refine hK _ _ (Below.trans hS_wr2 (hBs.mono (Below.size hS_wr2))) ?_
        clear hK K hBs hhu hrow2
        refine wpW_det (t' := ?ct9R39) 9 (by rfl) (by kernel_rfl) (NQ_free _) (by kernel_rfl) ?cw9R39 ?ch9R39 ?ca9R39 (Eq.refl _) ?cH9R39
        case cw9R39 => (go_simp; done)
        case ch9R39 =>
          intro ds w' hS K hK
          have hc := (bcell hS).1
          have hf := (bcell hS).2
          have hz := hS.size
          try simp at hz
          go_simp
          try go_bits
          first
            | exact hK _ hS (Gr.refl _)
            | exact hK _ (by repeat (first | (with_reducible exact Below.refl _ _) | (with_reducible assumption) | ((with_reducible refine Below.setCell ?_ ?_ _); rotate_left; · (first | exact Nat.le_refl _ | (simp; done) | (simp; omega) | omega)) | ((with_reducible refine Below.alloc ?_ ?_ _); rotate_left; · (first | exact Nat.le_refl _ | (simp; done) | (simp; omega) | omega)) | (with_reducible apply Below.drew) | (with_reducible apply below_drewN') | (refine Below.trans ?_ (Below.mono (by assumption) (by first | exact Nat.le_refl _ | (simp; done) | (simp; omega) | omega))) | exact Below.refl _ _ | assumption)) (by repeat (first | (with_reducible exact Below.refl _ _) | (with_reducible assumption) | ((with_reducible refine Below.setCell ?_ ?_ _); rotate_left; · (first | exact Nat.le_refl _ | (simp; done) | (simp; omega) | omega)) | ((with_reducible refine Below.alloc ?_ ?_ _); rotate_left; · (first | exact Nat.le_refl _ | (simp; done) | (simp; omega) | omega)) | (with_reducible apply Below.drew) | (with_reducible apply below_drewN') | (refine Below.trans ?_ (Below.mono (by assumption) (by first | exact Nat.le_refl _ | (simp; done) | (simp; omega) | omega))) | exact Below.refl _ _ | assumption))
        case ca9R39 => (first | (simp [Act.put]; done) | (simp [Act.put, *]; done))
        try dsimp only
        refine wpW_det (t' := ?ct10R39) 10 (by rfl) (by kernel_rfl) (NQ_free _) (by kernel_rfl) ?cw10R39 ?ch10R39 ?ca10R39 (Eq.refl _) ?cH10R39
        case cw10R39 => (go_simp; done)
        case ch10R39 =>
          intro ds w' hS K hK
          have hc := (bcell hS).1
          have hf := (bcell hS).2
          have hz := hS.size
          try simp at hz
          go_simp
          try go_bits
          first
            | exact hK _ hS (Gr.refl _)
            | exact hK _ (by repeat (first | (with_reducible exact Below.refl _ _) | (with_reducible assumption) | ((with_reducible refine Below.setCell ?_ ?_ _); rotate_left; · (first | exact Nat.le_refl _ | (simp; done) | (simp; omega) | omega)) | ((with_reducible refine Below.alloc ?_ ?_ _); rotate_left; · (first | exact Nat.le_refl _ | (simp; done) | (simp; omega) | omega)) | (with_reducible apply Below.drew) | (with_reducible apply below_drewN') | (refine Below.trans ?_ (Below.mono (by assumption) (by first | exact Nat.le_refl _ | (simp; done) | (simp; omega) | omega))) | exact Below.refl _ _ | assumption)) (by repeat (first | (with_reducible exact Below.refl _ _) | (with_reducible assumption) | ((with_reducible refine Below.setCell ?_ ?_ _); rotate_left; · (first | exact Nat.le_refl _ | (simp; done) | (simp; omega) | omega)) | ((with_reducible refine Below.alloc ?_ ?_ _); rotate_left; · (first | exact Nat.le_refl _ | (simp; done) | (simp; omega) | omega)) | (with_reducible apply Below.drew) | (with_reducible apply below_drewN') | (refine Below.trans ?_ (Below.mono (by assumption) (by first | exact Nat.le_refl _ | (simp; done) | (simp; omega) | omega))) | exact Below.refl _ _ | assumption))
        case ca10R39 => (first | (simp [Act.put]; done) | (simp [Act.put, *]; done))
        try dsimp only
        refine wpW_det (t' := ?ct11R39) 11 (by rfl) (by kernel_rfl) (NQ_free _) (by kernel_rfl) ?cw11R39 ?ch11R39 ?ca11R39 (Eq.refl _) ?cH11R39
        case cw11R39 => (go_simp; done)
        case ch11R39 =>
          intro ds w' hS K hK
          have hc := (bcell hS).1
          have hf := (bcell hS).2
          have hz := hS.size
          try simp at hz
          go_simp
          try go_bits
          first
            | exact hK _ hS (Gr.refl _)
            | exact hK _ (by repeat (first | (with_reducible exact Below.refl _ _) | (with_reducible assumption) | ((with_reducible refine Below.setCell ?_ ?_ _); rotate_left; · (first | exact Nat.le_refl _ | (simp; done) | (simp; omega) | omega)) | ((with_reducible refine Below.alloc ?_ ?_ _); rotate_left; · (first | exact Nat.le_refl _ | (simp; done) | (simp; omega) | omega)) | (with_reducible apply Below.drew) | (with_reducible apply below_drewN') | (refine Below.trans ?_ (Below.mono (by assumption) (by first | exact Nat.le_refl _ | (simp; done) | (simp; omega) | omega))) | exact Below.refl _ _ | assumption)) (by repeat (first | (with_reducible exact Below.refl _ _) | (with_reducible assumption) | ((with_reducible refine Below.setCell ?_ ?_ _); rotate_left; · (first | exact Nat.le_refl _ | (simp; done) | (simp; omega) | omega)) | ((with_reducible refine Below.alloc ?_ ?_ _); rotate_left; · (first | exact Nat.le_refl _ | (simp; done) | (simp; omega) | omega)) | (with_reducible apply Below.drew) | (with_reducible apply below_drewN') | (refine Below.trans ?_ (Below.mono (by assumption) (by first | exact Nat.le_refl _ | (simp; done) | (simp; omega) | omega))) | exact Below.refl _ _ | assumption))
        case ca11R39 => (first | (simp [Act.put]; done) | (simp [Act.put, *]; done))
        try dsimp only
        refine wpW_end (by kernel_rfl) ?_
        intro we hg hS
        unfold NQ
        dsimp only
        go_wp2
        go_ret
        exact ⟨rfl, hBB.trans (hS.mono (Below.size hBB))⟩
    · have hX := HD.out.1 h0
      subst hX
      have hY := HE2.out h0
      subst hY
      have h0' : (D == 0) = false := by simpa using h0
      have h0'' : (D != 0) = true := by simpa using h0
      go_wp2
      go_ret
      exact ⟨rfl, hBB⟩
end Go.Proofs.YtidgeagpgllkeaaGreat
