/- Contract of the law of tracks: true. -/
import Derived.Test.YtfbnpfhnffahdaaGreatDoorCwF
import Derived.Test.YtfbnpfhnffahdaaGreatDoorCwI
namespace Go.Proofs.YtfbnpfhnffahdaaGreatDoor
open Go.RowKit

theorem readE_openE {t : Tk} {zs : List Int} (h : trackE t = 0) : openE t zs = readE zs := by unfold openE; rw [if_pos h]
theorem trackE_openE {t : Tk} {zs : List Int} (h : ¬ trackE t = 0) : openE t zs = trackE t := by unfold openE; rw [if_neg h]
theorem scanR_no {t : Tk} {zs : List Int} (h : ¬ openE t zs = 0) : scanR t zs = [] := by unfold scanR; rw [if_neg h]
theorem anewR_no {t : Tk} {zs : List Int} (h : ¬ openE t zs = 0) : anewR t zs = [] := by unfold anewR; rw [if_neg h]
theorem scanR_yes {t : Tk} {zs : List Int} (h : openE t zs = 0) : scanR t zs = strV t zs true := by unfold scanR strV; rw [if_pos h]; rfl
theorem anewR_yes {t : Tk} {zs : List Int} (h : openE t zs = 0) : anewR t zs = strV t zs false := by unfold anewR strV; rw [if_pos h]; rfl

set_option maxRecDepth 100000 in
set_option maxHeartbeats 4000000 in
theorem coverTracks_any (t : Tk) (zs : List Int) (A : Option Addr) (c B : Nat) (w : World) (hi : ∀ p ∈ zs, I64 p) (hR : Row w B 1 A zs.length (intsC zs)) (hB : B ≤ w.heap.size) (hA : A = none → c = 0) (hE : Ends w) (hlen : zs.length ≤ 9223372036854775807) :
    Calls Tryz.prog 5 #[.agg (tkC t), .slice A zs.length c] w fun e w' => e = .returned (.bool true) ∧ Below w.heap.size w w' := by
  have hE1 : Hid (Ends (w.alloc (.cells (tkC t) 61))) := Lib.hid (hE.below ((Below.refl _ _).alloc (Nat.le_refl _) _))
  clear hE
  have HA := Lib.hid hA; clear hA
  have HI := Lib.hid hi; clear hi
  unfold tkC at *
  by_cases q1 : 20 < zs.length ∧ zs.length ≤ 200
  · have q2 : (20 : Int) < (zs.length : Int) := by omega
    have q3 : (zs.length : Int) ≤ 200 := by omega
    go_enter Tryz.func5, Tryz.ntmps5
    go_wp2_with fail
    refine (awake_any _ hE1.out).mono ?_
    rintro e w1 ⟨rfl, hB1⟩; obtain ⟨hc1, hf1⟩ := bcell hB1; have hz1 := hB1.size; (try simp at hz1)
    go_wp2
    go_ret
    exact ⟨rfl, (by repeat (first | (with_reducible exact Below.refl _ _) | (with_reducible assumption) | ((with_reducible refine Below.setCell ?_ ?_ _); rotate_left; · (first | exact Nat.le_refl _ | (simp; done) | (simp; omega) | omega)) | ((with_reducible refine Below.alloc ?_ ?_ _); rotate_left; · (first | exact Nat.le_refl _ | (simp; done) | (simp; omega) | omega)) | (with_reducible apply Below.drew) | (with_reducible apply below_drewN') | (refine Below.trans ?_ (Below.mono (by assumption) (by first | exact Nat.le_refl _ | (simp; done) | (simp; omega) | omega))) | exact Below.refl _ _ | assumption))⟩
  · by_cases q4 : 202 < zs.length
    · have q2 : (20 : Int) < (zs.length : Int) := by omega
      have q3 : (200 : Int) < (zs.length : Int) := by omega
      have q5 : (202 : Int) < (zs.length : Int) := by omega
      go_enter Tryz.func5, Tryz.ntmps5
      go_wp2_with fail
      refine (awake_any _ hE1.out).mono ?_
      rintro e w1 ⟨rfl, hB1⟩; obtain ⟨hc1, hf1⟩ := bcell hB1; have hz1 := hB1.size; (try simp at hz1)
      go_wp2
      go_ret
      exact ⟨rfl, (by repeat (first | (with_reducible exact Below.refl _ _) | (with_reducible assumption) | ((with_reducible refine Below.setCell ?_ ?_ _); rotate_left; · (first | exact Nat.le_refl _ | (simp; done) | (simp; omega) | omega)) | ((with_reducible refine Below.alloc ?_ ?_ _); rotate_left; · (first | exact Nat.le_refl _ | (simp; done) | (simp; omega) | omega)) | (with_reducible apply Below.drew) | (with_reducible apply below_drewN') | (refine Below.trans ?_ (Below.mono (by assumption) (by first | exact Nat.le_refl _ | (simp; done) | (simp; omega) | omega))) | exact Below.refl _ _ | assumption))⟩
    · have q5 : (zs.length : Int) ≤ 202 := by omega
      have hz : InOk zs A c B w := ⟨by omega, HI.out, hR, hB⟩
      go_enter Tryz.func5, Tryz.ntmps5
      go_wp2_with fail
      refine (awake_any _ hE1.out).mono ?_
      rintro e w1 ⟨rfl, hB1⟩; obtain ⟨hc1, hf1⟩ := bcell hB1; have hz1 := hB1.size; (try simp at hz1)
      have b1 : Blk w1 w.heap.size 61 (tkC t) := Blk.below (Blk.new w _ _) hB1 (by simp)
      have hBB : Below w.heap.size w w1 := (by repeat (first | (with_reducible exact Below.refl _ _) | (with_reducible assumption) | ((with_reducible refine Below.setCell ?_ ?_ _); rotate_left; · (first | exact Nat.le_refl _ | (simp; done) | (simp; omega) | omega)) | ((with_reducible refine Below.alloc ?_ ?_ _); rotate_left; · (first | exact Nat.le_refl _ | (simp; done) | (simp; omega) | omega)) | (with_reducible apply Below.drew) | (with_reducible apply below_drewN') | (refine Below.trans ?_ (Below.mono (by assumption) (by first | exact Nat.le_refl _ | (simp; done) | (simp; omega) | omega))) | exact Below.refl _ _ | assumption))
      clear hc1 hf1 hB1
      have lb := b1.lt
      have s1 := Below.size hBB
      obtain ⟨t0, t1, t2, t3, _⟩ := blk4 b1
      go_upto_region 3 with fail
      go_cut [24] (fun s24 wx => s24 = .bool false ∧ wx = w1)
      case first =>
        by_cases q6 : 20 < zs.length
        · have i1 : (20 : Int) < (zs.length : Int) := by omega
          have h1 : decide ((zs.length : Int) ≤ 200) = false := by simp; omega
          have h2 : decide (202 < (zs.length : Int)) = false := by simp; omega
          go_wp2
          go_meet
          exact ⟨rfl, rfl⟩
        · have i1 : (zs.length : Int) ≤ 20 := by omega
          have h2 : decide (202 < (zs.length : Int)) = false := by simp; omega
          go_wp2
          go_meet
          exact ⟨rfl, rfl⟩
      case rest =>
      obtain ⟨rfl, rfl⟩ := hcut
      have l1 := b1.lt
      go_wp2_with fail
      refine wp_region_w (Gr _) (by kernel_rfl) (Below.refl _ _).drew ?_
      refine wpW_det (t' := ?ct0R1) 0 (by rfl) (by kernel_rfl) (NQ_free _) (by kernel_rfl) ?cw0R1 ?ch0R1 ?ca0R1 (Eq.refl _) ?cH0R1
      case cw0R1 => (go_simp; done)
      case ch0R1 =>
        intro ds w' hS K hK
        have hc := (bcell hS).1
        have hf := (bcell hS).2
        have hz := hS.size
        try simp at hz
        go_simp
        try go_bits
        first
          | exact hK _ hS (Gr.refl _)
          | exact hK _ (by repeat (first | (with_reducible exact Below.refl _ _) | (with_reducible assumption) | ((with_reducible refine Below.setCell ?_ ?_ _); rotate_left; · (first | exact Nat.le_refl _ | (simp; done) | (simp; omega) | omega)) | ((with_reducible refine Below.alloc ?_ ?_ _); rotate_left; · (first | exact Nat.le_refl _ | (simp; done) | (simp; omega) | omega)) | (with_reducible apply Below.drew) | (with_reducible apply below_drewN') | (refine Below.trans ?_ (Below.mono (by assumption) (by first | exact Nat.le_refl _ | (simp; done) | (simp; omega) | omega))) | exact Below.refl _ _ | assumption)) (by repeat (first | (with_reducible exact Below.refl _ _) | (with_reducible assumption) | ((with_reducible refine Below.setCell ?_ ?_ _); rotate_left; · (first | exact Nat.le_refl _ | (simp; done) | (simp; omega) | omega)) | ((with_reducible refine Below.alloc ?_ ?_ _); rotate_left; · (first | exact Nat.le_refl _ | (simp; done) | (simp; omega) | omega)) | (with_reducible apply Below.drew) | (with_reducible apply below_drewN') | (refine Below.trans ?_ (Below.mono (by assumption) (by first | exact Nat.le_refl _ | (simp; done) | (simp; omega) | omega))) | exact Below.refl _ _ | assumption))
      case ca0R1 => (first | (simp [Act.put]; done) | (simp [Act.put, *]; done))
      refine wpW_det (t' := ?ct1R1) 1 (by rfl) (by kernel_rfl) (NQ_free _) (by kernel_rfl) ?cw1R1 ?ch1R1 ?ca1R1 (Eq.refl _) ?cH1R1
      case cw1R1 => (go_simp; done)
      case ch1R1 =>
        intro ds w' hS K hK
        have hc := (bcell hS).1
        have hf := (bcell hS).2
        have hz := hS.size
        try simp at hz
        go_simp
        try go_bits
        first
          | exact hK _ hS (Gr.refl _)
          | exact hK _ (by repeat (first | (with_reducible exact Below.refl _ _) | (with_reducible assumption) | ((with_reducible refine Below.setCell ?_ ?_ _); rotate_left; · (first | exact Nat.le_refl _ | (simp; done) | (simp; omega) | omega)) | ((with_reducible refine Below.alloc ?_ ?_ _); rotate_left; · (first | exact Nat.le_refl _ | (simp; done) | (simp; omega) | omega)) | (with_reducible apply Below.drew) | (with_reducible apply below_drewN') | (refine Below.trans ?_ (Below.mono (by assumption) (by first | exact Nat.le_refl _ | (simp; done) | (simp; omega) | omega))) | exact Below.refl _ _ | assumption)) (by repeat (first | (with_reducible exact Below.refl _ _) | (with_reducible assumption) | ((with_reducible refine Below.setCell ?_ ?_ _); rotate_left; · (first | exact Nat.le_refl _ | (simp; done) | (simp; omega) | omega)) | ((with_reducible refine Below.alloc ?_ ?_ _); rotate_left; · (first | exact Nat.le_refl _ | (simp; done) | (simp; omega) | omega)) | (with_reducible apply Below.drew) | (with_reducible apply below_drewN') | (refine Below.trans ?_ (Below.mono (by assumption) (by first | exact Nat.le_refl _ | (simp; done) | (simp; omega) | omega))) | exact Below.refl _ _ | assumption))
      case ca1R1 => (first | (simp [Act.put]; done) | (simp [Act.put, *]; done))
      refine wpW_branch [2] (by kernel_rfl) (by simp) ?_
      intro w2 hg_w2 hS_w2
      refine each_cons ?_ each_nil
      refine wpOp_go (by rfl) (Eq.refl _) (by go_simp; done) ?_
      intro K hK
      go_simp
      try simp only [Act.put]
      have hzw2 : InOk zs A c B w2 := ⟨by omega, HI.out, hR.below (hBB.trans (Below.mono hS_w2 (Below.size hBB))) hB, Nat.le_trans hB (Below.size (hBB.trans (Below.mono hS_w2 (Below.size hBB))))⟩
      refine (copyInts_any zs A c B w2 hzw2 HA.out).mono ?_
      rintro e w3 ⟨v, rfl, own3, hB3⟩
      obtain ⟨A3, c3, rfl, hR3⟩ := Row.own own3
      have hS3 : Gr wc w3 := Below.trans hS_w2 (hB3.mono (Below.size hS_w2))
      refine hK _ _ hS3 ?_
      clear hK K own3 hB3 hS_w2 hg_w2 hzw2
      refine wpW_branch [3] (by kernel_rfl) (by simp) ?_
      intro w4 hg_w4 hS_w4
      refine each_cons ?_ each_nil
      refine wpOp_go (by rfl) (Eq.refl _) (by go_simp; done) ?_
      intro K hK
      go_simp
      try simp only [Act.put]
      refine (scanned_any t zs A3 c3 w3.heap.size w4 ⟨by omega, HI.out, hR3.below hg_w4 (Nat.le_refl _), Below.size hg_w4⟩).mono ?_
      rintro e w5 ⟨v, rfl, own5, hB5⟩
      obtain ⟨A5, c5, rfl, hR5⟩ := Row.own own5
      have hS5 : Gr wc w5 := Below.trans hS_w4 (hB5.mono (Below.size hS_w4))
      refine hK _ _ hS5 ?_
      clear hK K own5 hB5 hS_w4 hg_w4 hR3 hS3
      refine wpW_det (t' := ?ct4R2) 4 (by rfl) (by kernel_rfl) (NQ_free _) (by kernel_rfl) ?cw4R2 ?ch4R2 ?ca4R2 (Eq.refl _) ?cH4R2
      case cw4R2 => (go_simp; done)
      case ch4R2 =>
        intro ds w' hS K hK
        have hc := (bcell hS).1
        have hf := (bcell hS).2
        have hz := hS.size
        try simp at hz
        go_simp
        try go_bits
        first
          | exact hK _ hS (Gr.refl _)
          | exact hK _ (by repeat (first | (with_reducible exact Below.refl _ _) | (with_reducible assumption) | ((with_reducible refine Below.setCell ?_ ?_ _); rotate_left; · (first | exact Nat.le_refl _ | (simp; done) | (simp; omega) | omega)) | ((with_reducible refine Below.alloc ?_ ?_ _); rotate_left; · (first | exact Nat.le_refl _ | (simp; done) | (simp; omega) | omega)) | (with_reducible apply Below.drew) | (with_reducible apply below_drewN') | (refine Below.trans ?_ (Below.mono (by assumption) (by first | exact Nat.le_refl _ | (simp; done) | (simp; omega) | omega))) | exact Below.refl _ _ | assumption)) (by repeat (first | (with_reducible exact Below.refl _ _) | (with_reducible assumption) | ((with_reducible refine Below.setCell ?_ ?_ _); rotate_left; · (first | exact Nat.le_refl _ | (simp; done) | (simp; omega) | omega)) | ((with_reducible refine Below.alloc ?_ ?_ _); rotate_left; · (first | exact Nat.le_refl _ | (simp; done) | (simp; omega) | omega)) | (with_reducible apply Below.drew) | (with_reducible apply below_drewN') | (refine Below.trans ?_ (Below.mono (by assumption) (by first | exact Nat.le_refl _ | (simp; done) | (simp; omega) | omega))) | exact Below.refl _ _ | assumption))
      case ca4R2 => (first | (simp [Act.put]; done) | (simp [Act.put, *]; done))
      refine wpW_det (t' := ?ct5R2) 5 (by rfl) (by kernel_rfl) (NQ_free _) (by kernel_rfl) ?cw5R2 ?ch5R2 ?ca5R2 (Eq.refl _) ?cH5R2
      case cw5R2 => (go_simp; done)
      case ch5R2 =>
        intro ds w' hS K hK
        have hc := (bcell hS).1
        have hf := (bcell hS).2
        have hz := hS.size
        try simp at hz
        go_simp
        try go_bits
        first
          | exact hK _ hS (Gr.refl _)
          | exact hK _ (by repeat (first | (with_reducible exact Below.refl _ _) | (with_reducible assumption) | ((with_reducible refine Below.setCell ?_ ?_ _); rotate_left; · (first | exact Nat.le_refl _ | (simp; done) | (simp; omega) | omega)) | ((with_reducible refine Below.alloc ?_ ?_ _); rotate_left; · (first | exact Nat.le_refl _ | (simp; done) | (simp; omega) | omega)) | (with_reducible apply Below.drew) | (with_reducible apply below_drewN') | (refine Below.trans ?_ (Below.mono (by assumption) (by first | exact Nat.le_refl _ | (simp; done) | (simp; omega) | omega))) | exact Below.refl _ _ | assumption)) (by repeat (first | (with_reducible exact Below.refl _ _) | (with_reducible assumption) | ((with_reducible refine Below.setCell ?_ ?_ _); rotate_left; · (first | exact Nat.le_refl _ | (simp; done) | (simp; omega) | omega)) | ((with_reducible refine Below.alloc ?_ ?_ _); rotate_left; · (first | exact Nat.le_refl _ | (simp; done) | (simp; omega) | omega)) | (with_reducible apply Below.drew) | (with_reducible apply below_drewN') | (refine Below.trans ?_ (Below.mono (by assumption) (by first | exact Nat.le_refl _ | (simp; done) | (simp; omega) | omega))) | exact Below.refl _ _ | assumption))
      case ca5R2 => (first | (simp [Act.put]; done) | (simp [Act.put, *]; done))
      refine wpW_det (t' := ?ct6R2) 6 (by rfl) (by kernel_rfl) (NQ_free _) (by kernel_rfl) ?cw6R2 ?ch6R2 ?ca6R2 (Eq.refl _) ?cH6R2
      case cw6R2 => (go_simp; done)
      case ch6R2 =>
        intro ds w' hS K hK
        have hc := (bcell hS).1
        have hf := (bcell hS).2
        have hz := hS.size
        try simp at hz
        go_simp
        try go_bits
        first
          | exact hK _ hS (Gr.refl _)
          | exact hK _ (by repeat (first | (with_reducible exact Below.refl _ _) | (with_reducible assumption) | ((with_reducible refine Below.setCell ?_ ?_ _); rotate_left; · (first | exact Nat.le_refl _ | (simp; done) | (simp; omega) | omega)) | ((with_reducible refine Below.alloc ?_ ?_ _); rotate_left; · (first | exact Nat.le_refl _ | (simp; done) | (simp; omega) | omega)) | (with_reducible apply Below.drew) | (with_reducible apply below_drewN') | (refine Below.trans ?_ (Below.mono (by assumption) (by first | exact Nat.le_refl _ | (simp; done) | (simp; omega) | omega))) | exact Below.refl _ _ | assumption)) (by repeat (first | (with_reducible exact Below.refl _ _) | (with_reducible assumption) | ((with_reducible refine Below.setCell ?_ ?_ _); rotate_left; · (first | exact Nat.le_refl _ | (simp; done) | (simp; omega) | omega)) | ((with_reducible refine Below.alloc ?_ ?_ _); rotate_left; · (first | exact Nat.le_refl _ | (simp; done) | (simp; omega) | omega)) | (with_reducible apply Below.drew) | (with_reducible apply below_drewN') | (refine Below.trans ?_ (Below.mono (by assumption) (by first | exact Nat.le_refl _ | (simp; done) | (simp; omega) | omega))) | exact Below.refl _ _ | assumption))
      case ca6R2 => (first | (simp [Act.put]; done) | (simp [Act.put, *]; done))
      refine wpW_det (t' := ?ct7R2) 7 (by rfl) (by kernel_rfl) (NQ_free _) (by kernel_rfl) ?cw7R2 ?ch7R2 ?ca7R2 (Eq.refl _) ?cH7R2
      case cw7R2 => (go_simp; done)
      case ch7R2 =>
        intro ds w' hS K hK
        have hc := (bcell hS).1
        have hf := (bcell hS).2
        have hz := hS.size
        try simp at hz
        go_simp
        try go_bits
        first
          | exact hK _ hS (Gr.refl _)
          | exact hK _ (by repeat (first | (with_reducible exact Below.refl _ _) | (with_reducible assumption) | ((with_reducible refine Below.setCell ?_ ?_ _); rotate_left; · (first | exact Nat.le_refl _ | (simp; done) | (simp; omega) | omega)) | ((with_reducible refine Below.alloc ?_ ?_ _); rotate_left; · (first | exact Nat.le_refl _ | (simp; done) | (simp; omega) | omega)) | (with_reducible apply Below.drew) | (with_reducible apply below_drewN') | (refine Below.trans ?_ (Below.mono (by assumption) (by first | exact Nat.le_refl _ | (simp; done) | (simp; omega) | omega))) | exact Below.refl _ _ | assumption)) (by repeat (first | (with_reducible exact Below.refl _ _) | (with_reducible assumption) | ((with_reducible refine Below.setCell ?_ ?_ _); rotate_left; · (first | exact Nat.le_refl _ | (simp; done) | (simp; omega) | omega)) | ((with_reducible refine Below.alloc ?_ ?_ _); rotate_left; · (first | exact Nat.le_refl _ | (simp; done) | (simp; omega) | omega)) | (with_reducible apply Below.drew) | (with_reducible apply below_drewN') | (refine Below.trans ?_ (Below.mono (by assumption) (by first | exact Nat.le_refl _ | (simp; done) | (simp; omega) | omega))) | exact Below.refl _ _ | assumption))
      case ca7R2 => (first | (simp [Act.put]; done) | (simp [Act.put, *]; done))
      refine wpW_det (t' := ?ct8R2) 8 (by rfl) (by kernel_rfl) (NQ_free _) (by kernel_rfl) ?cw8R2 ?ch8R2 ?ca8R2 (Eq.refl _) ?cH8R2
      case cw8R2 => (go_simp; done)
      case ch8R2 =>
        intro ds w' hS K hK
        have hc := (bcell hS).1
        have hf := (bcell hS).2
        have hz := hS.size
        try simp at hz
        go_simp
        try go_bits
        first
          | exact hK _ hS (Gr.refl _)
          | exact hK _ (by repeat (first | (with_reducible exact Below.refl _ _) | (with_reducible assumption) | ((with_reducible refine Below.setCell ?_ ?_ _); rotate_left; · (first | exact Nat.le_refl _ | (simp; done) | (simp; omega) | omega)) | ((with_reducible refine Below.alloc ?_ ?_ _); rotate_left; · (first | exact Nat.le_refl _ | (simp; done) | (simp; omega) | omega)) | (with_reducible apply Below.drew) | (with_reducible apply below_drewN') | (refine Below.trans ?_ (Below.mono (by assumption) (by first | exact Nat.le_refl _ | (simp; done) | (simp; omega) | omega))) | exact Below.refl _ _ | assumption)) (by repeat (first | (with_reducible exact Below.refl _ _) | (with_reducible assumption) | ((with_reducible refine Below.setCell ?_ ?_ _); rotate_left; · (first | exact Nat.le_refl _ | (simp; done) | (simp; omega) | omega)) | ((with_reducible refine Below.alloc ?_ ?_ _); rotate_left; · (first | exact Nat.le_refl _ | (simp; done) | (simp; omega) | omega)) | (with_reducible apply Below.drew) | (with_reducible apply below_drewN') | (refine Below.trans ?_ (Below.mono (by assumption) (by first | exact Nat.le_refl _ | (simp; done) | (simp; omega) | omega))) | exact Below.refl _ _ | assumption))
      case ca8R2 => (first | (simp [Act.put]; done) | (simp [Act.put, *]; done))
      refine wpW_end (by kernel_rfl) ?_
      intro w6 hg hS
      unfold NQ
      dsimp only
      have hRa := (hR5.below hg (Nat.le_refl _)).more (Below.size hg)
      have b6 := b1.below hS b1.lt
      have hB6 := hBB.trans (Below.mono hS (Below.size hBB))
      clear hg hS hS5 hR5
      clear t0 t1 t2 t3 b1 hBB lb s1 l1
      have lb := b6.lt
      obtain ⟨t0, t1, t2, t3, _⟩ := blk4 b6
      go_wp2_with fail
      refine wp_region_w (Gr _) (by kernel_rfl) (Below.refl _ _).drew ?_
      refine wpW_det (t' := ?ct0R3) 0 (by rfl) (by kernel_rfl) (NQ_free _) (by kernel_rfl) ?cw0R3 ?ch0R3 ?ca0R3 (Eq.refl _) ?cH0R3
      case cw0R3 => (go_simp; done)
      case ch0R3 =>
        intro ds w' hS K hK
        have hc := (bcell hS).1
        have hf := (bcell hS).2
        have hz := hS.size
        try simp at hz
        go_simp
        try go_bits
        first
          | exact hK _ hS (Gr.refl _)
          | exact hK _ (by repeat (first | (with_reducible exact Below.refl _ _) | (with_reducible assumption) | ((with_reducible refine Below.setCell ?_ ?_ _); rotate_left; · (first | exact Nat.le_refl _ | (simp; done) | (simp; omega) | omega)) | ((with_reducible refine Below.alloc ?_ ?_ _); rotate_left; · (first | exact Nat.le_refl _ | (simp; done) | (simp; omega) | omega)) | (with_reducible apply Below.drew) | (with_reducible apply below_drewN') | (refine Below.trans ?_ (Below.mono (by assumption) (by first | exact Nat.le_refl _ | (simp; done) | (simp; omega) | omega))) | exact Below.refl _ _ | assumption)) (by repeat (first | (with_reducible exact Below.refl _ _) | (with_reducible assumption) | ((with_reducible refine Below.setCell ?_ ?_ _); rotate_left; · (first | exact Nat.le_refl _ | (simp; done) | (simp; omega) | omega)) | ((with_reducible refine Below.alloc ?_ ?_ _); rotate_left; · (first | exact Nat.le_refl _ | (simp; done) | (simp; omega) | omega)) | (with_reducible apply Below.drew) | (with_reducible apply below_drewN') | (refine Below.trans ?_ (Below.mono (by assumption) (by first | exact Nat.le_refl _ | (simp; done) | (simp; omega) | omega))) | exact Below.refl _ _ | assumption))
      case ca0R3 => (first | (simp [Act.put]; done) | (simp [Act.put, *]; done))
      refine wpW_det (t' := ?ct1R3) 1 (by rfl) (by kernel_rfl) (NQ_free _) (by kernel_rfl) ?cw1R3 ?ch1R3 ?ca1R3 (Eq.refl _) ?cH1R3
      case cw1R3 => (go_simp; done)
      case ch1R3 =>
        intro ds w' hS K hK
        have hc := (bcell hS).1
        have hf := (bcell hS).2
        have hz := hS.size
        try simp at hz
        go_simp
        try go_bits
        first
          | exact hK _ hS (Gr.refl _)
          | exact hK _ (by repeat (first | (with_reducible exact Below.refl _ _) | (with_reducible assumption) | ((with_reducible refine Below.setCell ?_ ?_ _); rotate_left; · (first | exact Nat.le_refl _ | (simp; done) | (simp; omega) | omega)) | ((with_reducible refine Below.alloc ?_ ?_ _); rotate_left; · (first | exact Nat.le_refl _ | (simp; done) | (simp; omega) | omega)) | (with_reducible apply Below.drew) | (with_reducible apply below_drewN') | (refine Below.trans ?_ (Below.mono (by assumption) (by first | exact Nat.le_refl _ | (simp; done) | (simp; omega) | omega))) | exact Below.refl _ _ | assumption)) (by repeat (first | (with_reducible exact Below.refl _ _) | (with_reducible assumption) | ((with_reducible refine Below.setCell ?_ ?_ _); rotate_left; · (first | exact Nat.le_refl _ | (simp; done) | (simp; omega) | omega)) | ((with_reducible refine Below.alloc ?_ ?_ _); rotate_left; · (first | exact Nat.le_refl _ | (simp; done) | (simp; omega) | omega)) | (with_reducible apply Below.drew) | (with_reducible apply below_drewN') | (refine Below.trans ?_ (Below.mono (by assumption) (by first | exact Nat.le_refl _ | (simp; done) | (simp; omega) | omega))) | exact Below.refl _ _ | assumption))
      case ca1R3 => (first | (simp [Act.put]; done) | (simp [Act.put, *]; done))
      refine wpW_branch [2] (by kernel_rfl) (by simp) ?_
      intro w7 hg_w7 hS_w7
      refine each_cons ?_ each_nil
      refine wpOp_go (by rfl) (Eq.refl _) (by go_simp; done) ?_
      intro K hK
      go_simp
      try simp only [Act.put]
      have hzw7 : InOk zs A c B w7 := ⟨by omega, HI.out, hR.below (hB6.trans (Below.mono hS_w7 (Below.size hB6))) hB, Nat.le_trans hB (Below.size (hB6.trans (Below.mono hS_w7 (Below.size hB6))))⟩
      refine (copyInts_any zs A c B w7 hzw7 HA.out).mono ?_
      rintro e w8 ⟨v, rfl, own3, hB3⟩
      obtain ⟨A3, c3, rfl, hR3⟩ := Row.own own3
      have hS3 : Gr w6 w8 := Below.trans hS_w7 (hB3.mono (Below.size hS_w7))
      refine hK _ _ hS3 ?_
      clear hK K own3 hB3 hS_w7 hg_w7 hzw7
      refine wpW_branch [3] (by kernel_rfl) (by simp) ?_
      intro w9 hg_w9 hS_w9
      refine each_cons ?_ each_nil
      refine wpOp_go (by rfl) (Eq.refl _) (by go_simp; done) ?_
      intro K hK
      go_simp
      try simp only [Act.put]
      refine (anew_any t zs A3 c3 w8.heap.size w9 ⟨by omega, HI.out, hR3.below hg_w9 (Nat.le_refl _), Below.size hg_w9⟩).mono ?_
      rintro e w10 ⟨v, rfl, own5, hB5⟩
      obtain ⟨A7, c7, rfl, hR5⟩ := Row.own own5
      have hS5 : Gr w6 w10 := Below.trans hS_w9 (hB5.mono (Below.size hS_w9))
      refine hK _ _ hS5 ?_
      clear hK K own5 hB5 hS_w9 hg_w9 hR3 hS3
      refine wpW_det (t' := ?ct4R4) 4 (by rfl) (by kernel_rfl) (NQ_free _) (by kernel_rfl) ?cw4R4 ?ch4R4 ?ca4R4 (Eq.refl _) ?cH4R4
      case cw4R4 => (go_simp; done)
      case ch4R4 =>
        intro ds w' hS K hK
        have hc := (bcell hS).1
        have hf := (bcell hS).2
        have hz := hS.size
        try simp at hz
        go_simp
        try go_bits
        first
          | exact hK _ hS (Gr.refl _)
          | exact hK _ (by repeat (first | (with_reducible exact Below.refl _ _) | (with_reducible assumption) | ((with_reducible refine Below.setCell ?_ ?_ _); rotate_left; · (first | exact Nat.le_refl _ | (simp; done) | (simp; omega) | omega)) | ((with_reducible refine Below.alloc ?_ ?_ _); rotate_left; · (first | exact Nat.le_refl _ | (simp; done) | (simp; omega) | omega)) | (with_reducible apply Below.drew) | (with_reducible apply below_drewN') | (refine Below.trans ?_ (Below.mono (by assumption) (by first | exact Nat.le_refl _ | (simp; done) | (simp; omega) | omega))) | exact Below.refl _ _ | assumption)) (by repeat (first | (with_reducible exact Below.refl _ _) | (with_reducible assumption) | ((with_reducible refine Below.setCell ?_ ?_ _); rotate_left; · (first | exact Nat.le_refl _ | (simp; done) | (simp; omega) | omega)) | ((with_reducible refine Below.alloc ?_ ?_ _); rotate_left; · (first | exact Nat.le_refl _ | (simp; done) | (simp; omega) | omega)) | (with_reducible apply Below.drew) | (with_reducible apply below_drewN') | (refine Below.trans ?_ (Below.mono (by assumption) (by first | exact Nat.le_refl _ | (simp; done) | (simp; omega) | omega))) | exact Below.refl _ _ | assumption))
      case ca4R4 => (first | (simp [Act.put]; done) | (simp [Act.put, *]; done))
      refine wpW_det (t' := ?ct5R4) 5 (by rfl) (by kernel_rfl) (NQ_free _) (by kernel_rfl) ?cw5R4 ?ch5R4 ?ca5R4 (Eq.refl _) ?cH5R4
      case cw5R4 => (go_simp; done)
      case ch5R4 =>
        intro ds w' hS K hK
        have hc := (bcell hS).1
        have hf := (bcell hS).2
        have hz := hS.size
        try simp at hz
        go_simp
        try go_bits
        first
          | exact hK _ hS (Gr.refl _)
          | exact hK _ (by repeat (first | (with_reducible exact Below.refl _ _) | (with_reducible assumption) | ((with_reducible refine Below.setCell ?_ ?_ _); rotate_left; · (first | exact Nat.le_refl _ | (simp; done) | (simp; omega) | omega)) | ((with_reducible refine Below.alloc ?_ ?_ _); rotate_left; · (first | exact Nat.le_refl _ | (simp; done) | (simp; omega) | omega)) | (with_reducible apply Below.drew) | (with_reducible apply below_drewN') | (refine Below.trans ?_ (Below.mono (by assumption) (by first | exact Nat.le_refl _ | (simp; done) | (simp; omega) | omega))) | exact Below.refl _ _ | assumption)) (by repeat (first | (with_reducible exact Below.refl _ _) | (with_reducible assumption) | ((with_reducible refine Below.setCell ?_ ?_ _); rotate_left; · (first | exact Nat.le_refl _ | (simp; done) | (simp; omega) | omega)) | ((with_reducible refine Below.alloc ?_ ?_ _); rotate_left; · (first | exact Nat.le_refl _ | (simp; done) | (simp; omega) | omega)) | (with_reducible apply Below.drew) | (with_reducible apply below_drewN') | (refine Below.trans ?_ (Below.mono (by assumption) (by first | exact Nat.le_refl _ | (simp; done) | (simp; omega) | omega))) | exact Below.refl _ _ | assumption))
      case ca5R4 => (first | (simp [Act.put]; done) | (simp [Act.put, *]; done))
      refine wpW_det (t' := ?ct6R4) 6 (by rfl) (by kernel_rfl) (NQ_free _) (by kernel_rfl) ?cw6R4 ?ch6R4 ?ca6R4 (Eq.refl _) ?cH6R4
      case cw6R4 => (go_simp; done)
      case ch6R4 =>
        intro ds w' hS K hK
        have hc := (bcell hS).1
        have hf := (bcell hS).2
        have hz := hS.size
        try simp at hz
        go_simp
        try go_bits
        first
          | exact hK _ hS (Gr.refl _)
          | exact hK _ (by repeat (first | (with_reducible exact Below.refl _ _) | (with_reducible assumption) | ((with_reducible refine Below.setCell ?_ ?_ _); rotate_left; · (first | exact Nat.le_refl _ | (simp; done) | (simp; omega) | omega)) | ((with_reducible refine Below.alloc ?_ ?_ _); rotate_left; · (first | exact Nat.le_refl _ | (simp; done) | (simp; omega) | omega)) | (with_reducible apply Below.drew) | (with_reducible apply below_drewN') | (refine Below.trans ?_ (Below.mono (by assumption) (by first | exact Nat.le_refl _ | (simp; done) | (simp; omega) | omega))) | exact Below.refl _ _ | assumption)) (by repeat (first | (with_reducible exact Below.refl _ _) | (with_reducible assumption) | ((with_reducible refine Below.setCell ?_ ?_ _); rotate_left; · (first | exact Nat.le_refl _ | (simp; done) | (simp; omega) | omega)) | ((with_reducible refine Below.alloc ?_ ?_ _); rotate_left; · (first | exact Nat.le_refl _ | (simp; done) | (simp; omega) | omega)) | (with_reducible apply Below.drew) | (with_reducible apply below_drewN') | (refine Below.trans ?_ (Below.mono (by assumption) (by first | exact Nat.le_refl _ | (simp; done) | (simp; omega) | omega))) | exact Below.refl _ _ | assumption))
      case ca6R4 => (first | (simp [Act.put]; done) | (simp [Act.put, *]; done))
      refine wpW_det (t' := ?ct7R4) 7 (by rfl) (by kernel_rfl) (NQ_free _) (by kernel_rfl) ?cw7R4 ?ch7R4 ?ca7R4 (Eq.refl _) ?cH7R4
      case cw7R4 => (go_simp; done)
      case ch7R4 =>
        intro ds w' hS K hK
        have hc := (bcell hS).1
        have hf := (bcell hS).2
        have hz := hS.size
        try simp at hz
        go_simp
        try go_bits
        first
          | exact hK _ hS (Gr.refl _)
          | exact hK _ (by repeat (first | (with_reducible exact Below.refl _ _) | (with_reducible assumption) | ((with_reducible refine Below.setCell ?_ ?_ _); rotate_left; · (first | exact Nat.le_refl _ | (simp; done) | (simp; omega) | omega)) | ((with_reducible refine Below.alloc ?_ ?_ _); rotate_left; · (first | exact Nat.le_refl _ | (simp; done) | (simp; omega) | omega)) | (with_reducible apply Below.drew) | (with_reducible apply below_drewN') | (refine Below.trans ?_ (Below.mono (by assumption) (by first | exact Nat.le_refl _ | (simp; done) | (simp; omega) | omega))) | exact Below.refl _ _ | assumption)) (by repeat (first | (with_reducible exact Below.refl _ _) | (with_reducible assumption) | ((with_reducible refine Below.setCell ?_ ?_ _); rotate_left; · (first | exact Nat.le_refl _ | (simp; done) | (simp; omega) | omega)) | ((with_reducible refine Below.alloc ?_ ?_ _); rotate_left; · (first | exact Nat.le_refl _ | (simp; done) | (simp; omega) | omega)) | (with_reducible apply Below.drew) | (with_reducible apply below_drewN') | (refine Below.trans ?_ (Below.mono (by assumption) (by first | exact Nat.le_refl _ | (simp; done) | (simp; omega) | omega))) | exact Below.refl _ _ | assumption))
      case ca7R4 => (first | (simp [Act.put]; done) | (simp [Act.put, *]; done))
      refine wpW_det (t' := ?ct8R4) 8 (by rfl) (by kernel_rfl) (NQ_free _) (by kernel_rfl) ?cw8R4 ?ch8R4 ?ca8R4 (Eq.refl _) ?cH8R4
      case cw8R4 => (go_simp; done)
      case ch8R4 =>
        intro ds w' hS K hK
        have hc := (bcell hS).1
        have hf := (bcell hS).2
        have hz := hS.size
        try simp at hz
        go_simp
        try go_bits
        first
          | exact hK _ hS (Gr.refl _)
          | exact hK _ (by repeat (first | (with_reducible exact Below.refl _ _) | (with_reducible assumption) | ((with_reducible refine Below.setCell ?_ ?_ _); rotate_left; · (first | exact Nat.le_refl _ | (simp; done) | (simp; omega) | omega)) | ((with_reducible refine Below.alloc ?_ ?_ _); rotate_left; · (first | exact Nat.le_refl _ | (simp; done) | (simp; omega) | omega)) | (with_reducible apply Below.drew) | (with_reducible apply below_drewN') | (refine Below.trans ?_ (Below.mono (by assumption) (by first | exact Nat.le_refl _ | (simp; done) | (simp; omega) | omega))) | exact Below.refl _ _ | assumption)) (by repeat (first | (with_reducible exact Below.refl _ _) | (with_reducible assumption) | ((with_reducible refine Below.setCell ?_ ?_ _); rotate_left; · (first | exact Nat.le_refl _ | (simp; done) | (simp; omega) | omega)) | ((with_reducible refine Below.alloc ?_ ?_ _); rotate_left; · (first | exact Nat.le_refl _ | (simp; done) | (simp; omega) | omega)) | (with_reducible apply Below.drew) | (with_reducible apply below_drewN') | (refine Below.trans ?_ (Below.mono (by assumption) (by first | exact Nat.le_refl _ | (simp; done) | (simp; omega) | omega))) | exact Below.refl _ _ | assumption))
      case ca8R4 => (first | (simp [Act.put]; done) | (simp [Act.put, *]; done))
      refine wpW_end (by kernel_rfl) ?_
      intro w11 hg hS
      unfold NQ
      dsimp only
      have hRa := (hRa.below hS (Nat.le_refl _)).more (Below.size hS)
      have hRb := (hR5.below hg (Nat.le_refl _)).more (Below.size hg)
      have b11 := b6.below hS b6.lt
      have hB11 := hB6.trans (Below.mono hS (Below.size hB6))
      clear hg hS hS5 hR5
      clear t0 t1 t2 t3 hB6
      have lb := b11.lt
      have hs11 := Below.size hB11
      obtain ⟨t0, t1, t2, t3, _⟩ := blk4 b11
      go_wp2_with fail
      refine (rCheckTrack_any t _).mono ?_
      rintro e w12 ⟨rfl, hB12⟩
      have b12 := b11.below hB12 lb
      have hB12' := hB11.trans (hB12.mono hs11)
      have hRa := (hRa.below hB12 (Nat.le_refl _)).more (Below.size hB12)
      have hRb := (hRb.below hB12 (Nat.le_refl _)).more (Below.size hB12)
      clear t0 t1 t2 t3 hB12 hs11 b11 lb hB11
      have lb := b12.lt
      have hs12 := Below.size hB12'
      obtain ⟨t0, t1, t2, t3, _⟩ := blk4 b12
      go_wp2_with fail
      refine (checkTrack_any t _).mono ?_
      rintro e w13 ⟨rfl, hB13⟩
      have b13 := b12.below hB13 lb
      have hB13' := hB12'.trans (hB13.mono hs12)
      have hRa := (hRa.below hB13 (Nat.le_refl _)).more (Below.size hB13)
      have hRb := (hRb.below hB13 (Nat.le_refl _)).more (Below.size hB13)
      clear t0 t1 t2 t3 hB13 hs12 b12 lb hB12'
      have hs13 := Below.size hB13'
      have hne : (trackE t != trackE t) = false := by simp
      by_cases h0 : trackE t = 0
      · have HOE := Lib.hid (readE_openE (zs := zs) h0)
        have hq0 : (trackE t == 0) = true := by simpa using h0
        clear h0
        have lb := b13.lt
        obtain ⟨t0, t1, t2, t3, _⟩ := blk4 b13
        go_wp2_with fail
        refine (rReadingsErr_any zs A c B _ ⟨by omega, HI.out, hR.below hB13' hB, Nat.le_trans hB (Below.size hB13')⟩).mono ?_
        rintro e w14 ⟨rfl, hB14⟩
        have b14 := b13.below hB14 b13.lt
        have hB14' := hB13'.trans (hB14.mono (Below.size hB13'))
        have hRa := (hRa.below hB14 (Nat.le_refl _)).more (Below.size hB14)
        have hRb := (hRb.below hB14 (Nat.le_refl _)).more (Below.size hB14)
        clear t0 t1 t2 t3 lb b13 hB13'
        have lb := b14.lt
        obtain ⟨t0, t1, t2, t3, _⟩ := blk4 b14
        clear hB14 hs13
        by_cases h1 : readE zs = 0
        · have H1 := Lib.hid h1
          have HO : Hid (openE t zs = 0) := Lib.hid (HOE.out.trans h1)
          have hL1 : (strV t zs true).length ≤ 1000000000 := by have := scan_length t zs; show (scanV t zs).length ≤ _; omega
          have hL2 : (strV t zs false).length ≤ 1000000000 := by have := anew_length t zs; show (anewV t zs).length ≤ _; omega
          clear h1
          rw [scanR_yes HO.out] at hRa
          rw [anewR_yes HO.out] at hRb
          rw [HO.out, H1.out, scanR_yes HO.out, anewR_yes HO.out]
          go_wp2_with fail
          refine (stretches_any t zs true A c B _ ⟨by omega, HI.out, hR.below hB14' hB, Nat.le_trans hB (Below.size hB14')⟩ HO.out).mono ?_
          rintro e w15 ⟨v, rfl, own15, hB15⟩
          obtain ⟨A15, c15, rfl, hR15⟩ := Row.own own15
          have b15 := b14.below hB15 b14.lt
          have hB15' := hB14'.trans (hB15.mono (Below.size hB14'))
          have hRa := (hRa.below hB15 (Nat.le_refl _)).more (Below.size hB15)
          have hRb := (hRb.below hB15 (Nat.le_refl _)).more (Below.size hB15)
          clear t0 t1 t2 t3 lb b14 hB14'
          have lb := b15.lt
          obtain ⟨t0, t1, t2, t3, _⟩ := blk4 b15
          clear hB15 own15
          go_wp2_with fail
          refine (ranges_any (strV t zs true) (strV t zs true) A5 A15 c5 c15 w15.heap.size w15 hL1 hL1 hRa hR15 (Nat.le_refl _)).mono ?_
          rw [decide_eq_true (p := strV t zs true = strV t zs true) rfl]
          rintro e w16 ⟨rfl, hB16⟩
          have b16 := b15.below hB16 b15.lt
          have hB16' := hB15'.trans (hB16.mono (Below.size hB15'))
          have hRb := (hRb.below hB16 (Nat.le_refl _)).more (Below.size hB16)
          clear t0 t1 t2 t3 lb b15 hB15'
          have lb := b16.lt
          obtain ⟨t0, t1, t2, t3, _⟩ := blk4 b16
          clear hB16 hRa hR15
          go_wp2_with fail
          refine (stretches_any t zs false A c B _ ⟨by omega, HI.out, hR.below hB16' hB, Nat.le_trans hB (Below.size hB16')⟩ HO.out).mono ?_
          rintro e w17 ⟨v, rfl, own17, hB17⟩
          obtain ⟨A17, c17, rfl, hR17⟩ := Row.own own17
          have b17 := b16.below hB17 b16.lt
          have hB17' := hB16'.trans (hB17.mono (Below.size hB16'))
          have hRb := (hRb.below hB17 (Nat.le_refl _)).more (Below.size hB17)
          clear hB17 own17
          go_wp2_with fail
          refine (ranges_any (strV t zs false) (strV t zs false) A7 A17 c7 c17 w17.heap.size w17 hL2 hL2 hRb hR17 (Nat.le_refl _)).mono ?_
          rw [decide_eq_true (p := strV t zs false = strV t zs false) rfl]
          rintro e w18 ⟨rfl, hB18⟩
          go_wp2
          go_ret
          exact ⟨rfl, hB17'.trans (hB18.mono (Below.size hB17'))⟩
        · have hno : ¬ openE t zs = 0 := by rw [HOE.out]; exact h1
          have hq : (readE zs != 0) = true := by simpa using h1
          have hq2 : (readE zs == 0) = false := by simpa using h1
          have HN := Lib.hid hno
          clear h1 hno
          rw [HOE.out, scanR_no HN.out, anewR_no HN.out]
          go_wp2
          go_ret
          exact ⟨by first | rfl | simp, hB14'⟩
      · have HOE := Lib.hid (trackE_openE (zs := zs) h0)
        have hq0 : (trackE t == 0) = false := by simpa using h0
        have hno : ¬ openE t zs = 0 := by rw [HOE.out]; exact h0
        have hq : (trackE t != 0) = true := by simpa using h0
        have hq2 : (trackE t == 0) = false := by simpa using h0
        have HN := Lib.hid hno
        clear h0 hno
        rw [HOE.out, scanR_no HN.out, anewR_no HN.out]
        go_wp2
        go_ret
        exact ⟨by first | rfl | simp, hB13'⟩
end Go.Proofs.YtfbnpfhnffahdaaGreatDoor
