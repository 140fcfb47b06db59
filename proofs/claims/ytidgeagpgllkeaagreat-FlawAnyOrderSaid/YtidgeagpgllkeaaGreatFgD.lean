/- The law FlawScans answers true. -/
import Derived.Test.YtidgeagpgllkeaaGreatFgC
import Derived.Test.YtidgeagpgllkeaaGreatFcP
namespace Go.Proofs.YtidgeagpgllkeaaGreat
open Go.RowKit

theorem fewB_true {l : List Sc} (h : fewB l = true) : l.length ≤ 8 ∧ ∀ s ∈ l, s.data.length ≤ 36 := by
  unfold fewB at h
  split at h
  · cases h
  · exact ⟨by omega, fun m hm => of_decide_eq_true (List.all_eq_true.1 h m hm)⟩
set_option maxRecDepth 100000 in
set_option maxHeartbeats 1000000 in
theorem few_wide (l : List Sc) (A : Option Addr) (c B : Nat) (w : World) (hn : l.length ≤ 9223372036854775807) (hR : Row w B 5 A l.length (scsC l)) (hsz : Hid (∀ s ∈ l, s.data.length ≤ 9223372036854775807)) (hB : B ≤ w.heap.size) :
    Calls Tryz.prog 19 #[.slice A l.length c] w fun e w' => e = .returned (.bool (fewB l)) ∧ Below w.heap.size w w' := by
  by_cases hbad : (4 < l.length ∧ l.length ≤ 6) ∨ 8 < l.length
  · have HE : Hid (fewB l = false) := Lib.hid (by unfold fewB; rw [if_pos hbad])
    go_enter Tryz.func19, Tryz.ntmps19
    rcases hbad with ⟨h1, h2⟩ | h1
    all_goals
      go_wp2
      go_ret
      exact ⟨by rw [HE.out]; rfl, (by repeat (first | (with_reducible exact Below.refl _ _) | (with_reducible assumption) | ((with_reducible refine Below.setCell ?_ ?_ _); rotate_left; · (first | exact Nat.le_refl _ | (simp; done) | (simp; omega) | omega)) | ((with_reducible refine Below.alloc ?_ ?_ _); rotate_left; · (first | exact Nat.le_refl _ | (simp; done) | (simp; omega) | omega)) | (with_reducible apply Below.drew) | (with_reducible apply below_drewN') | (refine Below.trans ?_ (Below.mono (by assumption) (by first | exact Nat.le_refl _ | (simp; done) | (simp; omega) | omega))) | exact Below.refl _ _ | assumption))⟩
  · have HV : Hid (fewB l = l.all (fun s => decide (s.data.length ≤ 36))) := Lib.hid (by unfold fewB; rw [if_neg hbad])
    have hlen : l.length ≤ 4 ∨ (6 < l.length ∧ l.length ≤ 8) := by omega
    clear hbad
    go_enter Tryz.func19, Tryz.ntmps19
    rcases hlen with h1 | ⟨h1, h2⟩
    all_goals
      go_wp2
      go_loopw [3] (fun i wr => ∃ k : Nat, k ≤ l.length ∧ i = .int .i64 k ∧ Hid (∀ j (h : j < l.length), j < k → l[j].data.length ≤ 36) ∧ Below w.heap.size w wr) (fun i _ => l.length - (intOf i).toNat)
      case atStart => exact ⟨0, Nat.zero_le _, rfl, Lib.hid (fun j _ hj => absurd hj (by omega)), Below.refl _ _⟩
      case round =>
        obtain ⟨k, hk, rfl, HI, hBB⟩ := hrel
        have hl' := hR.below hBB hB
        by_cases hlt : k < l.length
        · obtain ⟨g, o, hA, hg, _, _, _, _, c4⟩ := scCells hl' hlt
          have hds := hsz.out l[k] (List.getElem_mem hlt)
          have HX : Hid (36 < l[k].data.length → fewB l = false) := Lib.hid (fun h => by
            rw [HV.out]
            cases hc : l.all (fun s => decide (s.data.length ≤ 36))
            · rfl
            · have := List.all_eq_true.1 hc _ (List.getElem_mem hlt)
              have := of_decide_eq_true this
              omega)
          have HY : Hid (l[k].data.length ≤ 36 → ∀ j (h : j < l.length), j < k + 1 → l[j].data.length ≤ 36) := Lib.hid (fun h j hj hjk => by
            by_cases e : j = k
            · subst e; exact h
            · exact HI.out j hj (by omega))
          generalize l[k].data.length = d at *
          generalize l[k].dA = dA at *
          generalize l[k].dcap = dc at *
          subst hA
          have hzb := Below.size hBB
          by_cases hd : 36 < d
          · have HE := Lib.hid (HX.out hd)
            clear HX HY
            go_wp2
            go_ret
            exact ⟨by rw [HE.out]; rfl, hBB⟩
          · have HE := Lib.hid (HY.out (by omega))
            clear HX HY
            go_wp2
            refine ⟨⟨k + 1, by omega, by go_num, HE, hBB⟩, by simp [intOf]; omega⟩
        · obtain rfl : k = l.length := by omega
          have HE : Hid (fewB l = true) := Lib.hid (by
            rw [HV.out, List.all_eq_true]
            intro s hs
            obtain ⟨j, hj, rfl⟩ := List.getElem_of_mem hs
            exact decide_eq_true (HI.out j hj hj))
          go_wp2
          go_ret
          exact ⟨by rw [HE.out]; rfl, hBB⟩
/-- What an argument of scans brings. -/
structure ScArg (l : List Sc) (A : Option Addr) (c : Nat) (w : World) : Prop where
  nil : A = none → c = 0
  row : Row w w.heap.size 5 A l.length (scsC l)
  le : l.length ≤ c
  most : c ≤ 9223372036854775807
  each : ∀ s ∈ l, (s.dA = none → s.dcap = 0) ∧ Row w w.heap.size 1 s.dA s.data.length (intsC s.data) ∧ s.data.length ≤ s.dcap ∧ s.dcap ≤ 9223372036854775807
theorem ScArg.ok {l : List Sc} {A : Option Addr} {c : Nat} {w : World} (h : ScArg l A c w) (hf : fewB l = true) : ScOk l A w.heap.size w :=
  ⟨by have := (fewB_true hf).1; omega, h.row, fun s hs => by have := (fewB_true hf).2 s hs; omega, fun s hs => (h.each s hs).2.1⟩
theorem atV_far {l : List Sc} (hg : ∀ s ∈ l, ScGood s) {r c : Int} (h : wi r (-200000) 200000 = false ∨ wi c (-200000) 200000 = false) : atV l r c < 0 := by
  rcases Int.lt_or_le (atV l r c) 0 with h1 | h1
  · exact h1
  · have := atV_known hg h1
    simp [wi] at h
    omega

set_option maxRecDepth 100000 in
set_option maxHeartbeats 4000000 in
theorem flawScans_any (l : List Sc) (A : Option Addr) (c : Nat) (r cc : Int) (w : World) (ha : ScArg l A c w) (hr : W64 r) (hcc : W64 cc) :
    Calls Tryz.prog 10 #[.slice A l.length c, .agg #[.int .i64 r, .int .i64 cc]] w fun e w' => e = .returned (.bool true) ∧ Below w.heap.size w w' := by
  have HR := Lib.hid hr; have HC := Lib.hid hcc
  have HNIL := Lib.hid ha.nil
  have hle := ha.le
  have hmost := ha.most
  have b3 := Blk.new w 25 #[.int .i64 r, .int .i64 cc]
  have hBB : Below w.heap.size w (w.alloc (.cells #[.int .i64 r, .int .i64 cc] 25)) := (by repeat (first | (with_reducible exact Below.refl _ _) | (with_reducible assumption) | ((with_reducible refine Below.setCell ?_ ?_ _); rotate_left; · (first | exact Nat.le_refl _ | (simp; done) | (simp; omega) | omega)) | ((with_reducible refine Below.alloc ?_ ?_ _); rotate_left; · (first | exact Nat.le_refl _ | (simp; done) | (simp; omega) | omega)) | (with_reducible apply Below.drew) | (with_reducible apply below_drewN') | (refine Below.trans ?_ (Below.mono (by assumption) (by first | exact Nat.le_refl _ | (simp; done) | (simp; omega) | omega))) | exact Below.refl _ _ | assumption))
  clear hr hcc
  go_enter Tryz.func10, Tryz.ntmps10
  go_wp2_with fail
  obtain ⟨W, hW⟩ : ∃ W, w.alloc (.cells #[.int .i64 r, .int .i64 cc] 25) = W := ⟨_, rfl⟩
  rw [hW] at b3 hBB ⊢
  clear hW
  refine (awake_any _).mono ?_
  rintro e w1 ⟨rfl, hB1⟩
  replace b3 := b3.gr hB1
  replace hBB := hBB.trans (hB1.mono (Below.size hBB))
  clear hB1
  have l_b3 := b3.lt
  obtain ⟨e0, e1, f3⟩ := blk2c b3
  go_wp2_with fail
  refine (few_wide l A c w.heap.size _ (by omega) (ha.row.below hBB (Nat.le_refl _)) (Lib.hid (fun s hs => by have := (ha.each s hs).2.2; omega)) (Below.size hBB)).mono ?_
  rintro e wc1 ⟨rfl, hBc1⟩
  replace b3 := b3.gr hBc1
  replace hBB := hBB.trans (Below.mono hBc1 (Below.size hBB))
  clear hBc1
  clear l_b3 e0 e1 f3
  have l_b3 := b3.lt
  obtain ⟨e0, e1, f3⟩ := blk2c b3
  cases hf : fewB l
  · go_wp2
    go_ret
    exact ⟨rfl, hBB⟩
  · have hl := ha.ok hf
    obtain ⟨hl8, hd36⟩ := fewB_true hf
    have HD : Hid (∀ s ∈ l, s.data.length ≤ s.dcap ∧ (s.dA = none → s.dcap = 0)) := Lib.hid (fun s hs => ⟨(ha.each s hs).2.2.1, (ha.each s hs).1⟩)
    have HSZ : Hid (∀ s ∈ l, s.data.length ≤ 1000000000) := Lib.hid hl.size
    clear hf hd36 ha
    obtain ⟨E1, hE1⟩ : ∃ E, (scansE l).1 = E := ⟨_, rfl⟩
    obtain ⟨E2, hE2⟩ : ∃ E, (scansE l).2 = E := ⟨_, rfl⟩
    obtain ⟨X1, hX1⟩ : ∃ E, (atE l r cc).1 = E := ⟨_, rfl⟩
    obtain ⟨X2, hX2⟩ : ∃ E, (atE l r cc).2 = E := ⟨_, rfl⟩
    have HX : Hid ((E2 ≠ 0 → X1 = 0 ∧ X2 = E2) ∧ (E2 = 0 → atV l r cc < 0 → X1 = 0 ∧ X2 = 6) ∧ (E2 = 0 → ¬ atV l r cc < 0 → X1 = atV l r cc ∧ X2 = 0)) := Lib.hid (by
      rw [← hX1, ← hX2, ← hE2]
      unfold atE
      refine ⟨fun h => by rw [if_neg h]; exact ⟨rfl, rfl⟩, fun h h' => by rw [if_pos h, if_pos h']; exact ⟨rfl, rfl⟩, fun h h' => by rw [if_pos h, if_neg h']; exact ⟨rfl, rfl⟩⟩)
    have HG : Hid (E2 = 0 → ∀ s ∈ l, ScGood s) := Lib.hid (fun h => (scansE_zero (hE2.trans h)).2)
    have K1 : Hid (∀ L : List Sc, L.map Sc.core = l.map Sc.core → (scansE L).1 = E1 ∧ (scansE L).2 = E2) := Lib.hid (fun L h => by rw [scansE_core h]; exact ⟨hE1, hE2⟩)
    have K2 : Hid (∀ L : List Sc, L.map Sc.core = l.map Sc.core → (atE L r cc).1 = X1 ∧ (atE L r cc).2 = X2) := Lib.hid (fun L h => by rw [atE_core h]; exact ⟨hX1, hX2⟩)
    have K3 := K1.out l rfl
    clear hE1 hE2 hX1 hX2
    go_wp2_with fail
    refine (copyScans_any l A c w.heap.size _ (hl.below hBB (Nat.le_refl _)) hle (Below.size hBB) HNIL.out HD).mono ?_
    rintro e wc2 ⟨v1, L1, rfl, hc1, own1, each1, hBc2⟩
    replace b3 := b3.gr hBc2
    obtain ⟨A1, c1, rfl, hl1⟩ := copiedS hc1 own1 each1 (by omega) HSZ.out
    replace hBB := hBB.trans (Below.mono hBc2 (Below.size hBB))
    clear hBc2
    clear l_b3 e0 e1 f3
    have l_b3 := b3.lt
    obtain ⟨e0, e1, f3⟩ := blk2c b3
    clear own1 each1
    have Kc := K1.out L1 hc1
    go_wp2_with fail
    refine (checkScans_any L1 A1 c1 _ _ hl1 (Nat.le_refl _)).mono ?_
    rw [Kc.1, Kc.2]
    rintro e w4 ⟨rfl, hB4⟩
    clear l_b3 e0 e1 f3
    replace b3 := b3.gr hB4
    replace hBB := hBB.trans (hB4.mono (Below.size hBB))
    clear hB4 hl1 Kc hc1
    have l_b3 := b3.lt
    obtain ⟨e0, e1, f3⟩ := blk2c b3
    go_upto_region 6 with fail
    have HL : Hid (∀ w', Below w4.heap.size w4 w' → ScOk l A w.heap.size w') := Lib.hid (fun w' h => hl.below (hBB.trans (h.mono (Below.size hBB))) (Nat.le_refl _))
    have hzw := Below.size hBB
    refine wp_region_w (Gr _) (by kernel_rfl) (Below.refl _ _).drew ?_
    refine wpW_det (t' := ?ct0R40) 0 (by rfl) (by kernel_rfl) (NQ_free _) (by kernel_rfl) ?cw0R40 ?ch0R40 ?ca0R40 (Eq.refl _) ?cH0R40
    case cw0R40 => (go_simp; done)
    case ch0R40 =>
      intro ds w' hS K hK
      have hc := (bcell hS).1
      have hf := (bcell hS).2
      have hz := hS.size
      try simp at hz
      go_simp
      try go_bits
      first
        | exact hK _ hS (Gr.refl _)
        | exact hK _ (by repeat (first | (with_reducible exact Below.refl _ _) | (with_reducible assumption) | ((with_reducible refine Below.setCell ?_ ?_ _); rotate_left; · (first | exact Nat.le_refl _ | (simp; done) | (simp; omega) | omega)) | ((with_reducible refine Below.alloc ?_ ?_ _); rotate_left; · (first | exact Nat.le_refl _ | (simp; done) | (simp; omega) | omega)) | (with_reducible apply Below.drew) | (with_reducible apply below_drewN') | (refine Below.trans ?_ (Below.mono (by assumption) (by first | exact Nat.le_refl _ | (simp; done) | (simp; omega) | omega))) | exact Below.refl _ _ | assumption)) (by repeat (first | (with_reducible exact Below.refl _ _) | (with_reducible assumption) | ((with_reducible refine Below.setCell ?_ ?_ _); rotate_left; · (first | exact Nat.le_refl _ | (simp; done) | (simp; omega) | omega)) | ((with_reducible refine Below.alloc ?_ ?_ _); rotate_left; · (first | exact Nat.le_refl _ | (simp; done) | (simp; omega) | omega)) | (with_reducible apply Below.drew) | (with_reducible apply below_drewN') | (refine Below.trans ?_ (Below.mono (by assumption) (by first | exact Nat.le_refl _ | (simp; done) | (simp; omega) | omega))) | exact Below.refl _ _ | assumption))
    case ca0R40 => (first | (simp [Act.put]; done) | (simp [Act.put, *]; done))
    try dsimp only
    refine wpW_det (t' := ?ct2R40) 2 (by rfl) (by kernel_rfl) (NQ_free _) (by kernel_rfl) ?cw2R40 ?ch2R40 ?ca2R40 (Eq.refl _) ?cH2R40
    case cw2R40 => (go_simp; done)
    case ch2R40 =>
      intro ds w' hS K hK
      have hc := (bcell hS).1
      have hf := (bcell hS).2
      have hz := hS.size
      try simp at hz
      go_simp
      try go_bits
      first
        | exact hK _ hS (Gr.refl _)
        | exact hK _ (by repeat (first | (with_reducible exact Below.refl _ _) | (with_reducible assumption) | ((with_reducible refine Below.setCell ?_ ?_ _); rotate_left; · (first | exact Nat.le_refl _ | (simp; done) | (simp; omega) | omega)) | ((with_reducible refine Below.alloc ?_ ?_ _); rotate_left; · (first | exact Nat.le_refl _ | (simp; done) | (simp; omega) | omega)) | (with_reducible apply Below.drew) | (with_reducible apply below_drewN') | (refine Below.trans ?_ (Below.mono (by assumption) (by first | exact Nat.le_refl _ | (simp; done) | (simp; omega) | omega))) | exact Below.refl _ _ | assumption)) (by repeat (first | (with_reducible exact Below.refl _ _) | (with_reducible assumption) | ((with_reducible refine Below.setCell ?_ ?_ _); rotate_left; · (first | exact Nat.le_refl _ | (simp; done) | (simp; omega) | omega)) | ((with_reducible refine Below.alloc ?_ ?_ _); rotate_left; · (first | exact Nat.le_refl _ | (simp; done) | (simp; omega) | omega)) | (with_reducible apply Below.drew) | (with_reducible apply below_drewN') | (refine Below.trans ?_ (Below.mono (by assumption) (by first | exact Nat.le_refl _ | (simp; done) | (simp; omega) | omega))) | exact Below.refl _ _ | assumption))
    case ca2R40 => (first | (simp [Act.put]; done) | (simp [Act.put, *]; done))
    try dsimp only
    refine wpW_branch [1] (by kernel_rfl) (by simp) ?_
    intro wr1 hg_wr1 hS_wr1
    refine each_cons ?_ each_nil
    refine wpOp_go (by rfl) (Eq.refl _) (by go_simp; done) ?_
    intro K hK
    go_simp
    try simp only [Act.put]
    refine (copyScans_any l A c w.heap.size _ (HL.out _ hS_wr1) hle (by have := Below.size hS_wr1; omega) HNIL.out HD).mono ?_
    rintro e ws1 ⟨v2, L2, rfl, hc2, own2, each2, hBs⟩
    obtain ⟨A2, c2, rfl, hl2⟩ := copiedS hc2 own2 each2 (by omega) HSZ.out
    have Kd := K2.out L2 hc2
    refine hK _ _ (Below.trans hS_wr1 (hBs.mono (Below.size hS_wr1))) ?_
    clear hK K own2 each2 hBs
    refine wpW_branch [3] (by kernel_rfl) (by simp) ?_
    intro wr2 hg_wr2 hS_wr2
    refine each_cons ?_ each_nil
    refine wpOp_go (by rfl) (Eq.refl _) (by go_simp; done) ?_
    intro K hK
    go_simp
    try simp only [Act.put]
    refine (at_any L2 A2 c2 _ r cc _ (hl2.below hg_wr2 (Nat.le_refl _)) (Below.size hg_wr2) HR.out HC.out).mono ?_
    rw [Kd.1, Kd.2]
    rintro e ws2 ⟨rfl, hBs⟩
    refine hK _ _ (Below.trans hS_wr2 (hBs.mono (Below.size hS_wr2))) ?_
    clear hK K hBs Kd hl2
    refine wpW_det (t' := ?ct4R41) 4 (by rfl) (by kernel_rfl) (NQ_free _) (by kernel_rfl) ?cw4R41 ?ch4R41 ?ca4R41 (Eq.refl _) ?cH4R41
    case cw4R41 => (go_simp; done)
    case ch4R41 =>
      intro ds w' hS K hK
      have hc := (bcell hS).1
      have hf := (bcell hS).2
      have hz := hS.size
      try simp at hz
      go_simp
      try go_bits
      first
        | exact hK _ hS (Gr.refl _)
        | exact hK _ (by repeat (first | (with_reducible exact Below.refl _ _) | (with_reducible assumption) | ((with_reducible refine Below.setCell ?_ ?_ _); rotate_left; · (first | exact Nat.le_refl _ | (simp; done) | (simp; omega) | omega)) | ((with_reducible refine Below.alloc ?_ ?_ _); rotate_left; · (first | exact Nat.le_refl _ | (simp; done) | (simp; omega) | omega)) | (with_reducible apply Below.drew) | (with_reducible apply below_drewN') | (refine Below.trans ?_ (Below.mono (by assumption) (by first | exact Nat.le_refl _ | (simp; done) | (simp; omega) | omega))) | exact Below.refl _ _ | assumption)) (by repeat (first | (with_reducible exact Below.refl _ _) | (with_reducible assumption) | ((with_reducible refine Below.setCell ?_ ?_ _); rotate_left; · (first | exact Nat.le_refl _ | (simp; done) | (simp; omega) | omega)) | ((with_reducible refine Below.alloc ?_ ?_ _); rotate_left; · (first | exact Nat.le_refl _ | (simp; done) | (simp; omega) | omega)) | (with_reducible apply Below.drew) | (with_reducible apply below_drewN') | (refine Below.trans ?_ (Below.mono (by assumption) (by first | exact Nat.le_refl _ | (simp; done) | (simp; omega) | omega))) | exact Below.refl _ _ | assumption))
    case ca4R41 => (first | (simp [Act.put]; done) | (simp [Act.put, *]; done))
    try dsimp only
    refine wpW_det (t' := ?ct5R41) 5 (by rfl) (by kernel_rfl) (NQ_free _) (by kernel_rfl) ?cw5R41 ?ch5R41 ?ca5R41 (Eq.refl _) ?cH5R41
    case cw5R41 => (go_simp; done)
    case ch5R41 =>
      intro ds w' hS K hK
      have hc := (bcell hS).1
      have hf := (bcell hS).2
      have hz := hS.size
      try simp at hz
      go_simp
      try go_bits
      first
        | exact hK _ hS (Gr.refl _)
        | exact hK _ (by repeat (first | (with_reducible exact Below.refl _ _) | (with_reducible assumption) | ((with_reducible refine Below.setCell ?_ ?_ _); rotate_left; · (first | exact Nat.le_refl _ | (simp; done) | (simp; omega) | omega)) | ((with_reducible refine Below.alloc ?_ ?_ _); rotate_left; · (first | exact Nat.le_refl _ | (simp; done) | (simp; omega) | omega)) | (with_reducible apply Below.drew) | (with_reducible apply below_drewN') | (refine Below.trans ?_ (Below.mono (by assumption) (by first | exact Nat.le_refl _ | (simp; done) | (simp; omega) | omega))) | exact Below.refl _ _ | assumption)) (by repeat (first | (with_reducible exact Below.refl _ _) | (with_reducible assumption) | ((with_reducible refine Below.setCell ?_ ?_ _); rotate_left; · (first | exact Nat.le_refl _ | (simp; done) | (simp; omega) | omega)) | ((with_reducible refine Below.alloc ?_ ?_ _); rotate_left; · (first | exact Nat.le_refl _ | (simp; done) | (simp; omega) | omega)) | (with_reducible apply Below.drew) | (with_reducible apply below_drewN') | (refine Below.trans ?_ (Below.mono (by assumption) (by first | exact Nat.le_refl _ | (simp; done) | (simp; omega) | omega))) | exact Below.refl _ _ | assumption))
    case ca5R41 => (first | (simp [Act.put]; done) | (simp [Act.put, *]; done))
    try dsimp only
    refine wpW_det (t' := ?ct6R41) 6 (by rfl) (by kernel_rfl) (NQ_free _) (by kernel_rfl) ?cw6R41 ?ch6R41 ?ca6R41 (Eq.refl _) ?cH6R41
    case cw6R41 => (go_simp; done)
    case ch6R41 =>
      intro ds w' hS K hK
      have hc := (bcell hS).1
      have hf := (bcell hS).2
      have hz := hS.size
      try simp at hz
      go_simp
      try go_bits
      first
        | exact hK _ hS (Gr.refl _)
        | exact hK _ (by repeat (first | (with_reducible exact Below.refl _ _) | (with_reducible assumption) | ((with_reducible refine Below.setCell ?_ ?_ _); rotate_left; · (first | exact Nat.le_refl _ | (simp; done) | (simp; omega) | omega)) | ((with_reducible refine Below.alloc ?_ ?_ _); rotate_left; · (first | exact Nat.le_refl _ | (simp; done) | (simp; omega) | omega)) | (with_reducible apply Below.drew) | (with_reducible apply below_drewN') | (refine Below.trans ?_ (Below.mono (by assumption) (by first | exact Nat.le_refl _ | (simp; done) | (simp; omega) | omega))) | exact Below.refl _ _ | assumption)) (by repeat (first | (with_reducible exact Below.refl _ _) | (with_reducible assumption) | ((with_reducible refine Below.setCell ?_ ?_ _); rotate_left; · (first | exact Nat.le_refl _ | (simp; done) | (simp; omega) | omega)) | ((with_reducible refine Below.alloc ?_ ?_ _); rotate_left; · (first | exact Nat.le_refl _ | (simp; done) | (simp; omega) | omega)) | (with_reducible apply Below.drew) | (with_reducible apply below_drewN') | (refine Below.trans ?_ (Below.mono (by assumption) (by first | exact Nat.le_refl _ | (simp; done) | (simp; omega) | omega))) | exact Below.refl _ _ | assumption))
    case ca6R41 => (first | (simp [Act.put]; done) | (simp [Act.put, *]; done))
    try dsimp only
    refine wpW_det (t' := ?ct7R41) 7 (by rfl) (by kernel_rfl) (NQ_free _) (by kernel_rfl) ?cw7R41 ?ch7R41 ?ca7R41 (Eq.refl _) ?cH7R41
    case cw7R41 => (go_simp; done)
    case ch7R41 =>
      intro ds w' hS K hK
      have hc := (bcell hS).1
      have hf := (bcell hS).2
      have hz := hS.size
      try simp at hz
      go_simp
      try go_bits
      first
        | exact hK _ hS (Gr.refl _)
        | exact hK _ (by repeat (first | (with_reducible exact Below.refl _ _) | (with_reducible assumption) | ((with_reducible refine Below.setCell ?_ ?_ _); rotate_left; · (first | exact Nat.le_refl _ | (simp; done) | (simp; omega) | omega)) | ((with_reducible refine Below.alloc ?_ ?_ _); rotate_left; · (first | exact Nat.le_refl _ | (simp; done) | (simp; omega) | omega)) | (with_reducible apply Below.drew) | (with_reducible apply below_drewN') | (refine Below.trans ?_ (Below.mono (by assumption) (by first | exact Nat.le_refl _ | (simp; done) | (simp; omega) | omega))) | exact Below.refl _ _ | assumption)) (by repeat (first | (with_reducible exact Below.refl _ _) | (with_reducible assumption) | ((with_reducible refine Below.setCell ?_ ?_ _); rotate_left; · (first | exact Nat.le_refl _ | (simp; done) | (simp; omega) | omega)) | ((with_reducible refine Below.alloc ?_ ?_ _); rotate_left; · (first | exact Nat.le_refl _ | (simp; done) | (simp; omega) | omega)) | (with_reducible apply Below.drew) | (with_reducible apply below_drewN') | (refine Below.trans ?_ (Below.mono (by assumption) (by first | exact Nat.le_refl _ | (simp; done) | (simp; omega) | omega))) | exact Below.refl _ _ | assumption))
    case ca7R41 => (first | (simp [Act.put]; done) | (simp [Act.put, *]; done))
    try dsimp only
    refine wpW_det (t' := ?ct8R41) 8 (by rfl) (by kernel_rfl) (NQ_free _) (by kernel_rfl) ?cw8R41 ?ch8R41 ?ca8R41 (Eq.refl _) ?cH8R41
    case cw8R41 => (go_simp; done)
    case ch8R41 =>
      intro ds w' hS K hK
      have hc := (bcell hS).1
      have hf := (bcell hS).2
      have hz := hS.size
      try simp at hz
      go_simp
      try go_bits
      first
        | exact hK _ hS (Gr.refl _)
        | exact hK _ (by repeat (first | (with_reducible exact Below.refl _ _) | (with_reducible assumption) | ((with_reducible refine Below.setCell ?_ ?_ _); rotate_left; · (first | exact Nat.le_refl _ | (simp; done) | (simp; omega) | omega)) | ((with_reducible refine Below.alloc ?_ ?_ _); rotate_left; · (first | exact Nat.le_refl _ | (simp; done) | (simp; omega) | omega)) | (with_reducible apply Below.drew) | (with_reducible apply below_drewN') | (refine Below.trans ?_ (Below.mono (by assumption) (by first | exact Nat.le_refl _ | (simp; done) | (simp; omega) | omega))) | exact Below.refl _ _ | assumption)) (by repeat (first | (with_reducible exact Below.refl _ _) | (with_reducible assumption) | ((with_reducible refine Below.setCell ?_ ?_ _); rotate_left; · (first | exact Nat.le_refl _ | (simp; done) | (simp; omega) | omega)) | ((with_reducible refine Below.alloc ?_ ?_ _); rotate_left; · (first | exact Nat.le_refl _ | (simp; done) | (simp; omega) | omega)) | (with_reducible apply Below.drew) | (with_reducible apply below_drewN') | (refine Below.trans ?_ (Below.mono (by assumption) (by first | exact Nat.le_refl _ | (simp; done) | (simp; omega) | omega))) | exact Below.refl _ _ | assumption))
    case ca8R41 => (first | (simp [Act.put]; done) | (simp [Act.put, *]; done))
    try dsimp only
    refine wpW_end (by kernel_rfl) ?_
    intro w5 hg hS
    unfold NQ
    dsimp only
    clear l_b3 e0 e1 f3
    replace b3 := b3.gr hS
    replace hBB := hBB.trans (hS.mono (Below.size hBB))
    clear HL hg hS
    have l_b3 := b3.lt
    obtain ⟨e0, e1, f3⟩ := blk2c b3
    go_wp2_with fail
    refine (refCheckScans_any l A c w.heap.size _ (hl.below hBB (Nat.le_refl _)) (Below.size hBB)).mono ?_
    rw [K3.1, K3.2]
    rintro e wc3 ⟨rfl, hBc3⟩
    replace b3 := b3.gr hBc3
    replace hBB := hBB.trans (Below.mono hBc3 (Below.size hBB))
    clear hBc3
    clear l_b3 e0 e1 f3
    have l_b3 := b3.lt
    obtain ⟨e0, e1, f3⟩ := blk2c b3
    clear K1 K2 K3
    by_cases h0 : E2 = 0
    · subst h0
      have hgood := HG.out rfl
      have HGD := Lib.hid hgood
      cases h1 : wi r (-200000) 200000
      · obtain ⟨rfl, rfl⟩ := HX.out.2.1 rfl (atV_far hgood (.inl h1))
        have H1 := Lib.hid h1
        clear hgood h1
        go_wp2_with (go_at_call 27; refine (bWithin_any _ _ _ _).mono ?_; (first | rw [H1.out] | rw [H2.out]); rintro e w1 ⟨rfl, rfl⟩)
        go_ret
        exact ⟨rfl, hBB⟩
      · cases h2 : wi cc (-200000) 200000
        · obtain ⟨rfl, rfl⟩ := HX.out.2.1 rfl (atV_far hgood (.inr h2))
          have H1 := Lib.hid h1; have H2 := Lib.hid h2
          clear hgood h1 h2
          go_wp2_with (go_at_call 27; refine (bWithin_any _ _ _ _).mono ?_; (first | rw [H1.out] | rw [H2.out]); rintro e w1 ⟨rfl, rfl⟩)
          go_ret
          exact ⟨rfl, hBB⟩
        · have hrb : -200000 ≤ r ∧ r ≤ 200000 := by simpa [wi] using h1
          have hcb : -200000 ≤ cc ∧ cc ≤ 200000 := by simpa [wi] using h2
          have H1 := Lib.hid h1; have H2 := Lib.hid h2
          clear hgood h1 h2
          go_wp2_with (go_at_call 27; refine (bWithin_any _ _ _ _).mono ?_; (first | rw [H1.out] | rw [H2.out]); rintro e w1 ⟨rfl, rfl⟩)
          go_wp2_with fail
          refine (refAt_any l A c w.heap.size r cc _ (hl.below hBB (Nat.le_refl _)) (Below.size hBB) HGD (by omega) (by omega)).mono ?_
          rintro e wc4 ⟨rfl, hBc4⟩
          replace b3 := b3.gr hBc4
          replace hBB := hBB.trans (Below.mono hBc4 (Below.size hBB))
          clear hBc4
          clear l_b3 e0 e1 f3
          have l_b3 := b3.lt
          obtain ⟨e0, e1, f3⟩ := blk2c b3
          by_cases h3 : atV l r cc < 0
          · obtain ⟨rfl, rfl⟩ := HX.out.2.1 (by first | trivial | rfl) h3
            go_wp2
            go_ret
            exact ⟨rfl, hBB⟩
          · obtain ⟨rfl, rfl⟩ := HX.out.2.2 (by first | trivial | rfl) (by omega)
            go_wp2
            go_ret
            exact ⟨by first | rfl | (simp; done), hBB⟩
    · obtain ⟨rfl, rfl⟩ := HX.out.1 h0
      have h1 : (X2 != 0) = true := by simpa using h0
      have h2 : (X2 == 0) = false := by simpa using h0
      go_wp2
      go_ret
      exact ⟨by first | rfl | (simp; done), hBB⟩
end Go.Proofs.YtidgeagpgllkeaaGreat
