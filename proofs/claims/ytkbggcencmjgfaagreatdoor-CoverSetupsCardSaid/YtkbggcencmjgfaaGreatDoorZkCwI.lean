/- Contract: the examples of the statements are so. -/
import Derived.Test.YtkbggcencmjgfaaGreatDoorZkCwD
import Derived.Test.YtkbggcencmjgfaaGreatDoorZkCvZb
namespace Go.Proofs.YtkbggcencmjgfaaGreatDoor
open Go.RowKit

theorem JoOk.more {j : Jo} {A : Option Addr} {c B B' : Nat} {w : World} (h : JoOk j A c B w) (hB : B ≤ B') (hw : B' ≤ w.heap.size) : JoOk j A c B' w := ⟨h.nm, h.fs, h.len, h.cap, h.row.more hB, hw⟩

theorem ex_partV : prC (partOfR slantJ 0 dirN dirS) = .tuple #[.agg #[.int .i64 0, .int .i64 1, .int .i64 1, .int .i64 2], .int .i64 0] := by rw [ex_part]; rfl
theorem ex_sureV : prC (toldR ((metV slantJ.thick (faceAt slantJ ((0 : Nat) : Int)) (dirS.moved (dirS.at_ - 200))).both (metV slantJ.thick (faceAt slantJ ((0 : Nat) : Int)) (dirS.moved (dirS.at_ + 200))))) = .tuple #[.agg #[.int .i64 0, .int .i64 1, .int .i64 9, .int .i64 20], .int .i64 0] := (congrArg prC ex_sure).trans rfl
theorem dirN_size : dirN.size ≤ 1000000000000 := by simp [dirN, ByteArray.size]
theorem ex_gap {e : Ending} (h : FGap slantJ 0 [(dirN, dirS)] e) : e = .returned (.tuple #[.agg #[.int .i64 1, .int .i64 2, .int .i64 1, .int .i64 1], .int .i64 0]) := by
  obtain ⟨k, ps, l', hk, hps, hp, _, he⟩ := h.1 ex_setups
  have hk0 : (k : Int) = 0 := hk.symm
  rw [hk0, ex_parts] at hps
  have hl1 : ps.length = 1 := by simpa using congrArg List.length hps
  obtain ⟨p, rfl⟩ := List.length_eq_one_iff.1 hl1
  have hv : p.1 = ⟨0, 1, 1, 2, false, true⟩ := by simpa using hps
  have hs : selG [p] [0] = [p] := by
    unfold selG
    simp [hv]
  have hp' : l'.Perm (selG [p] [0]) := hp
  rw [hs] at hp'
  have hl : l' = [p] := List.perm_singleton.1 hp'
  have hg : gapL (0, 1) [p] = ((1, 2, 1, 1), true) := by
    unfold gapL
    simp [hv, gapL]
  rw [he, hl, hg]
  rfl

theorem exB_wf : exB.wf := by constructor <;> (simp [I64, exB])
theorem exB_faces : (bvJ ⟨#[98]⟩ exB).fs.length = 4 := by decide +kernel
theorem exBev_any (w : World) : Calls Tryz.prog 26 #[.agg #[.string ⟨#[98]⟩, .int .i64 1000, .int .i64 0, .int .i64 100, .int .i64 200, .int .i64 1, .int .i64 2]] w fun e w' => ∃ v, e = .returned (.tuple #[.agg #[.string ⟨#[98]⟩, .int .i64 1000, .int .i64 0, v], .int .i64 0]) ∧ w'.ownsRow w.heap.size 83 5 v 4 (fcsC (bvJ ⟨#[98]⟩ exB).fs) ∧ Below w.heap.size w w' := by
  refine (bev_fit ⟨#[98]⟩ exB w (by simp [ByteArray.size]) exB_wf (by decide +kernel) (by decide +kernel) (by decide +kernel) (by decide +kernel) (by decide +kernel) (by decide +kernel)).mono ?_
  rintro e w' ⟨⟨_, h⟩, hB⟩
  obtain ⟨v, he, hown⟩ := h ex_bev
  rw [exB_faces] at hown
  exact ⟨v, he, hown, hB⟩

set_option maxRecDepth 100000 in
set_option maxHeartbeats 8000000 in
theorem awake_any (w : World) (hE : Ends w) : Calls Tryz.prog 5 #[] w fun e w' => e = .returned (.bool true) ∧ Below w.heap.size w w' := by
  have HE := Lib.hid hE; clear hE
  go_enter Tryz.func5, Tryz.ntmps5
  go_wp2_with fail
  refine (slant_any _).mono ?_
  rintro e w1 ⟨A1, c1, rfl, hj1, hB1⟩
  go_wp2_with fail
  refine (direct_any _).mono ?_
  rintro e w2 ⟨rfl, hB2⟩
  unfold suC dirN dirS
  have hA2 : Below w.heap.size w w2 := hB1.trans (hB2.mono hB1.size)
  go_wp2_with fail
  refine (partOf_any slantJ 0 dirN dirS A1 c1 _ w2 (hj1.below hB2 (Nat.le_refl _)) (HE.out.below hA2) dirN_size dir_wf).mono ?_
  rw [ex_partV]
  rintro e w3 ⟨rfl, hB3⟩
  have hA3 : Below w.heap.size w w3 := hA2.trans (hB3.mono hA2.size)
  clear hB1 hB2 hB3 hj1 hA2
  have hs3 := Below.size hA3
  have b1 := Blk.new w3 56 #[.int .i64 0, .int .i64 1, .int .i64 1, .int .i64 2]
  have hA4 := hA3.alloc hs3 (.cells #[.int .i64 0, .int .i64 1, .int .i64 1, .int .i64 2] 56 (0, 0))
  go_wp2_with fail
  refine (slant_any _).mono ?_
  rintro e w4 ⟨A4, c4, rfl, hj4, hB4⟩
  have b1 := b1.below hB4 b1.lt
  have hA5 := hA4.trans (hB4.mono (Below.size hA4))
  go_wp2_with fail
  refine (direct_any _).mono ?_
  rintro e w5 ⟨rfl, hB5⟩
  unfold suC dirN dirS
  have b1 := b1.below hB5 b1.lt
  have hA6 := hA5.trans (hB5.mono (Below.size hA5))
  have hj5 := hj4.below hB5 (Nat.le_refl _)
  clear hA3 hA4 hA5 hB4 hj4 hB5 hs3
  generalize w3.heap.size = g1 at *
  go_wp2_with fail
  refine (surePart_ok slantJ 0 dirN dirS 200 A4 c4 _ w5 hj5 (HE.out.below hA6) dirN_size dir_wf ex_ask (by omega) (by simp [dirS]) (by simp [dirS])).mono ?_
  rw [ex_sureV]
  rintro e w6 ⟨rfl, hB6⟩
  have b1 := b1.below hB6 b1.lt
  have hA7 := hA6.trans (hB6.mono (Below.size hA6))
  clear hA6 hB6 hj5
  have b3 := Blk.new w6 56 #[.int .i64 0, .int .i64 1, .int .i64 9, .int .i64 20]
  have b1 := b1.alloc (.cells #[.int .i64 0, .int .i64 1, .int .i64 9, .int .i64 20] 56 (0, 0))
  have hA8 := hA7.alloc (Below.size hA7) (.cells #[.int .i64 0, .int .i64 1, .int .i64 9, .int .i64 20] 56 (0, 0))
  go_wp2_with fail
  refine (slant_any _).mono ?_
  rintro e w7 ⟨A7, c7, rfl, hj7, hB7⟩
  have b1 := b1.below hB7 b1.lt
  have b3 := b3.below hB7 b3.lt
  have hA9 := hA8.trans (hB7.mono (Below.size hA8))
  go_wp2_with fail
  refine (direct_any _).mono ?_
  rintro e w8 ⟨rfl, hB8⟩
  unfold suC dirN dirS
  have b1 := b1.below hB8 b1.lt
  have b3 := b3.below hB8 b3.lt
  have hA10 := hA9.trans (hB8.mono (Below.size hA9))
  have hj8 := hj7.below hB8 (Nat.le_refl _)
  have hlj := Below.size hB8
  clear hA7 hA8 hA9 hB7 hj7 hB8
  generalize w6.heap.size = g3 at *
  go_wp2_with fail
  have bs := Blk.new w8 25 #[.string ⟨#[97]⟩, .int .i64 (-1000), .int .i64 1, .int .i64 1, .int .i64 0, .int .i64 1, .int .i64 3, .int .i64 1, .int .i64 1, .int .i64 1]
  have hA11 := hA10.alloc (Below.size hA10) (.cells #[.string ⟨#[97]⟩, .int .i64 (-1000), .int .i64 1, .int .i64 1, .int .i64 0, .int .i64 1, .int .i64 3, .int .i64 1, .int .i64 1, .int .i64 1] 25 (0, 0))
  have b1 := b1.alloc (.cells #[.string ⟨#[97]⟩, .int .i64 (-1000), .int .i64 1, .int .i64 1, .int .i64 0, .int .i64 1, .int .i64 3, .int .i64 1, .int .i64 1, .int .i64 1] 25 (0, 0))
  have b3 := b3.alloc (.cells #[.string ⟨#[97]⟩, .int .i64 (-1000), .int .i64 1, .int .i64 1, .int .i64 0, .int .i64 1, .int .i64 3, .int .i64 1, .int .i64 1, .int .i64 1] 25 (0, 0))
  have hj9 := (hj8.below ((Below.refl w8.heap.size w8).alloc (Nat.le_refl _) (.cells #[.string ⟨#[97]⟩, .int .i64 (-1000), .int .i64 1, .int .i64 1, .int .i64 0, .int .i64 1, .int .i64 3, .int .i64 1, .int .i64 1, .int .i64 1] 25 (0, 0))) hlj).more (B' := w8.heap.size + 1) (by omega) (by simp)
  have hsu : SuOk [(dirN, dirS)] (some ⟨w8.heap.size, 0, none⟩) 1 (w8.heap.size + 1) (w8.alloc (.cells #[.string ⟨#[97]⟩, .int .i64 (-1000), .int .i64 1, .int .i64 1, .int .i64 0, .int .i64 1, .int .i64 3, .int .i64 1, .int .i64 1, .int .i64 1] 25)) := by
    refine ⟨?_, ?_, by simp, by omega, ⟨rfl, fun _ => ⟨w8.heap.size, 0, rfl, by omega, fun j u hu => ?_⟩⟩, by simp⟩
    · intro p hp; simp at hp; subst hp; exact dirN_size
    · intro p hp; simp at hp; subst hp; exact dir_wf
    · rw [Nat.zero_add, bs.cell j, List.getElem?_toArray]
      exact hu
  refine (firstGap_any slantJ 0 [(dirN, dirS)] A7 c7 (w8.heap.size + 1) (some ⟨w8.heap.size, 0, none⟩) 1 _ hj9 hsu (HE.out.below hA11)).mono ?_
  rintro e w9 ⟨hfg, hB9⟩
  have hfg := ex_gap hfg
  subst hfg
  have b1 := b1.below hB9 b1.lt
  have b3 := b3.below hB9 b3.lt
  have hA12 := hA11.trans (hB9.mono (Below.size hA11))
  clear hA10 hA11 hB9 hj8 hlj hj9 hsu bs
  have b5 := Blk.new w9 56 #[.int .i64 1, .int .i64 2, .int .i64 1, .int .i64 1]
  have b1 := b1.alloc (.cells #[.int .i64 1, .int .i64 2, .int .i64 1, .int .i64 1] 56 (0, 0))
  have b3 := b3.alloc (.cells #[.int .i64 1, .int .i64 2, .int .i64 1, .int .i64 1] 56 (0, 0))
  have hA13 := hA12.alloc (Below.size hA12) (.cells #[.int .i64 1, .int .i64 2, .int .i64 1, .int .i64 1] 56 (0, 0))
  go_wp2_with fail
  have bn := Blk.new' (w9.alloc (.cells #[.int .i64 1, .int .i64 2, .int .i64 1, .int .i64 1] 56)) 3 #[.int .i64 38, .int .i64 20] (g := w9.heap.size + 1) (by simp)
  have b1 := b1.alloc (.cells #[.int .i64 38, .int .i64 20] 3 (0, 0))
  have b3 := b3.alloc (.cells #[.int .i64 38, .int .i64 20] 3 (0, 0))
  have b5 := b5.alloc (.cells #[.int .i64 38, .int .i64 20] 3 (0, 0))
  have hA14 := hA13.alloc (Below.size hA13) (.cells #[.int .i64 38, .int .i64 20] 3 (0, 0))
  have hin : InOk [38, 20] (some ⟨w9.heap.size + 1, 0, none⟩) 2 (w9.heap.size + 2) ((w9.alloc (.cells #[.int .i64 1, .int .i64 2, .int .i64 1, .int .i64 1] 56)).alloc (.cells #[.int .i64 38, .int .i64 20] 3)) := by
    refine ⟨by simp, ?_, ⟨rfl, fun _ => ⟨w9.heap.size + 1, 0, rfl, by omega, fun j u hu => ?_⟩⟩, by simp⟩
    · intro p hp; simp at hp; rcases hp with rfl | rfl <;> simp [I64]
    · rw [Nat.zero_add, bn.cell j, List.getElem?_toArray]
      exact hu
  refine (anew_any exT [38, 20] (some ⟨w9.heap.size + 1, 0, none⟩) 2 (w9.heap.size + 2) _ hin).mono ?_
  rw [ex_open, ex_anew]
  rintro e w10 ⟨v7, rfl, own7, hB10⟩
  have b1 := b1.below hB10 b1.lt
  have b3 := b3.below hB10 b3.lt
  have b5 := b5.below hB10 b5.lt
  have hA15 := hA14.trans (hB10.mono (Below.size hA14))
  have own7 := own7.mono (base' := w.heap.size) (Below.size hA14)
  clear hA12 hA13 hA14 hin bn hB10
  generalize w9.heap.size = g5 at *
  go_wp2_with fail
  refine (exBev_any _).mono ?_
  rintro e w11 ⟨v9, rfl, own9, hB11⟩
  have b1 := b1.below hB11 b1.lt
  have b3 := b3.below hB11 b3.lt
  have b5 := b5.below hB11 b5.lt
  have hA16 := hA15.trans (hB11.mono (Below.size hA15))
  have own7 := own_below own7 hB11
  obtain ⟨A9, c9, hv9, _, hc9⟩ := own_shape own9
  subst hv9
  obtain ⟨g9, rfl, _, lg9, hcs, _⟩ := hc9 (by simp)
  have x8 : w11.cell? ⟨g9, 8, none⟩ = some (.int .i64 (-500)) := by rw [hcs 8 (by simp)]; rfl
  have x9 : w11.cell? ⟨g9, 9, none⟩ = some (.int .i64 0) := by rw [hcs 9 (by simp)]; rfl
  obtain ⟨A7, c7, hv7, hR7⟩ := Row.own own7
  subst hv7
  clear hA15 hB11 own7 own9 hc9 hcs
  have b9 := Blk.new w11 38 #[.string ⟨#[98]⟩, .int .i64 1000, .int .i64 0, .slice (some ⟨g9, 0, none⟩) 4 c9]
  have b1 := b1.alloc (.cells #[.string ⟨#[98]⟩, .int .i64 1000, .int .i64 0, .slice (some ⟨g9, 0, none⟩) 4 c9] 38 (0, 0))
  have b3 := b3.alloc (.cells #[.string ⟨#[98]⟩, .int .i64 1000, .int .i64 0, .slice (some ⟨g9, 0, none⟩) 4 c9] 38 (0, 0))
  have b5 := b5.alloc (.cells #[.string ⟨#[98]⟩, .int .i64 1000, .int .i64 0, .slice (some ⟨g9, 0, none⟩) 4 c9] 38 (0, 0))
  have hR7 := hR7.alloc (Nat.le_refl _) (.cells #[.string ⟨#[98]⟩, .int .i64 1000, .int .i64 0, .slice (some ⟨g9, 0, none⟩) 4 c9] 38 (0, 0))
  have x8 : (w11.alloc (.cells #[.string ⟨#[98]⟩, .int .i64 1000, .int .i64 0, .slice (some ⟨g9, 0, none⟩) 4 c9] 38)).cell? ⟨g9, 8, none⟩ = some (.int .i64 (-500)) := (World.cell?_alloc_lt w11 _ ⟨g9, 8, none⟩ (by simpa using lg9)).trans x8
  have x9 : (w11.alloc (.cells #[.string ⟨#[98]⟩, .int .i64 1000, .int .i64 0, .slice (some ⟨g9, 0, none⟩) 4 c9] 38)).cell? ⟨g9, 9, none⟩ = some (.int .i64 0) := (World.cell?_alloc_lt w11 _ ⟨g9, 9, none⟩ (by simpa using lg9)).trans x9
  have hA17 := hA16.alloc (Below.size hA16) (.cells #[.string ⟨#[98]⟩, .int .i64 1000, .int .i64 0, .slice (some ⟨g9, 0, none⟩) 4 c9] 38 (0, 0))
  have l9 := Nat.lt_succ_of_lt lg9
  have hsz : (w11.alloc (.cells #[.string ⟨#[98]⟩, .int .i64 1000, .int .i64 0, .slice (some ⟨g9, 0, none⟩) 4 c9] 38)).heap.size = w11.heap.size + 1 := by simp
  go_wp2_with fail
  generalize w11.alloc (.cells #[.string ⟨#[98]⟩, .int .i64 1000, .int .i64 0, .slice (some ⟨g9, 0, none⟩) 4 c9] 38 (0, 0)) = W at *
  clear hA16 HE lg9
  generalize w11.heap.size = g10 at *
  have l1 := b1.lt
  have l3 := b3.lt
  have l5 := b5.lt
  have l10 := b9.lt
  obtain ⟨p0, p1, p2, p3, _⟩ := blk4 b1
  obtain ⟨q0, q1, q2, q3, _⟩ := blk4 b3
  obtain ⟨r0, r1, r2, r3, _⟩ := blk4 b5
  obtain ⟨s0, s1, s2, s3, _⟩ := blk4 b9
  have lg9 : g9 < W.heap.size := by omega
  clear hsz l9
  simp only [List.length_cons, List.length_nil, Nat.zero_add, Nat.reduceAdd] at hR7
  refine wp_region_w (Gr _) (by kernel_rfl) (Below.refl _ _).drew ?_
  refine wpW_det (t' := ?ct0R11) 0 (by rfl) (by kernel_rfl) (NQ_free _) (by kernel_rfl) ?cw0R11 ?ch0R11 ?ca0R11 (Eq.refl _) ?cH0R11
  case cw0R11 => (go_simp; done)
  case ch0R11 =>
    intro ds w' hS K hK
    have hc := (bcell hS).1
    have hf := (bcell hS).2
    have hz := hS.size
    try simp at hz
    go_simp
    try go_bits
    first
      | exact hK _ hS (Gr.refl _)
      | (go_at_call 27; refine (lawPoint_any _ _ _).mono ?_; rintro e w1 ⟨rfl, hB1⟩; obtain ⟨hc1, hf1⟩ := bcell hB1; have hz1 := hB1.size; (try simp at hz1); exact hK _ (Below.trans hS (Below.mono hB1 (by first | exact Nat.le_refl _ | (simp; done) | (simp; omega) | omega))) hB1)
      | exact hK _ (by repeat (first | (with_reducible exact Below.refl _ _) | (with_reducible assumption) | ((with_reducible refine Below.setCell ?_ ?_ _); rotate_left; · (first | exact Nat.le_refl _ | (simp; done) | (simp; omega) | omega)) | ((with_reducible refine Below.alloc ?_ ?_ _); rotate_left; · (first | exact Nat.le_refl _ | (simp; done) | (simp; omega) | omega)) | (with_reducible apply Below.drew) | (with_reducible apply below_drewN') | (refine Below.trans ?_ (Below.mono (by assumption) (by first | exact Nat.le_refl _ | (simp; done) | (simp; omega) | omega))) | exact Below.refl _ _ | assumption)) (by repeat (first | (with_reducible exact Below.refl _ _) | (with_reducible assumption) | ((with_reducible refine Below.setCell ?_ ?_ _); rotate_left; · (first | exact Nat.le_refl _ | (simp; done) | (simp; omega) | omega)) | ((with_reducible refine Below.alloc ?_ ?_ _); rotate_left; · (first | exact Nat.le_refl _ | (simp; done) | (simp; omega) | omega)) | (with_reducible apply Below.drew) | (with_reducible apply below_drewN') | (refine Below.trans ?_ (Below.mono (by assumption) (by first | exact Nat.le_refl _ | (simp; done) | (simp; omega) | omega))) | exact Below.refl _ _ | assumption))
  case ca0R11 => (first | (simp [Act.put]; done) | (simp [Act.put, *]; done))
  try dsimp only
  refine wpW_det (t' := ?ct1R11) 1 (by rfl) (by kernel_rfl) (NQ_free _) (by kernel_rfl) ?cw1R11 ?ch1R11 ?ca1R11 (Eq.refl _) ?cH1R11
  case cw1R11 => (go_simp; done)
  case ch1R11 =>
    intro ds w' hS K hK
    have hc := (bcell hS).1
    have hf := (bcell hS).2
    have hz := hS.size
    try simp at hz
    go_simp
    try go_bits
    first
      | exact hK _ hS (Gr.refl _)
      | (go_at_call 27; refine (lawPoint_any _ _ _).mono ?_; rintro e w1 ⟨rfl, hB1⟩; obtain ⟨hc1, hf1⟩ := bcell hB1; have hz1 := hB1.size; (try simp at hz1); exact hK _ (Below.trans hS (Below.mono hB1 (by first | exact Nat.le_refl _ | (simp; done) | (simp; omega) | omega))) hB1)
      | exact hK _ (by repeat (first | (with_reducible exact Below.refl _ _) | (with_reducible assumption) | ((with_reducible refine Below.setCell ?_ ?_ _); rotate_left; · (first | exact Nat.le_refl _ | (simp; done) | (simp; omega) | omega)) | ((with_reducible refine Below.alloc ?_ ?_ _); rotate_left; · (first | exact Nat.le_refl _ | (simp; done) | (simp; omega) | omega)) | (with_reducible apply Below.drew) | (with_reducible apply below_drewN') | (refine Below.trans ?_ (Below.mono (by assumption) (by first | exact Nat.le_refl _ | (simp; done) | (simp; omega) | omega))) | exact Below.refl _ _ | assumption)) (by repeat (first | (with_reducible exact Below.refl _ _) | (with_reducible assumption) | ((with_reducible refine Below.setCell ?_ ?_ _); rotate_left; · (first | exact Nat.le_refl _ | (simp; done) | (simp; omega) | omega)) | ((with_reducible refine Below.alloc ?_ ?_ _); rotate_left; · (first | exact Nat.le_refl _ | (simp; done) | (simp; omega) | omega)) | (with_reducible apply Below.drew) | (with_reducible apply below_drewN') | (refine Below.trans ?_ (Below.mono (by assumption) (by first | exact Nat.le_refl _ | (simp; done) | (simp; omega) | omega))) | exact Below.refl _ _ | assumption))
  case ca1R11 => (first | (simp [Act.put]; done) | (simp [Act.put, *]; done))
  try dsimp only
  refine wpW_det (t' := ?ct2R11) 2 (by rfl) (by kernel_rfl) (NQ_free _) (by kernel_rfl) ?cw2R11 ?ch2R11 ?ca2R11 (Eq.refl _) ?cH2R11
  case cw2R11 => (go_simp; done)
  case ch2R11 =>
    intro ds w' hS K hK
    have hc := (bcell hS).1
    have hf := (bcell hS).2
    have hz := hS.size
    try simp at hz
    go_simp
    try go_bits
    first
      | exact hK _ hS (Gr.refl _)
      | (go_at_call 27; refine (lawPoint_any _ _ _).mono ?_; rintro e w1 ⟨rfl, hB1⟩; obtain ⟨hc1, hf1⟩ := bcell hB1; have hz1 := hB1.size; (try simp at hz1); exact hK _ (Below.trans hS (Below.mono hB1 (by first | exact Nat.le_refl _ | (simp; done) | (simp; omega) | omega))) hB1)
      | exact hK _ (by repeat (first | (with_reducible exact Below.refl _ _) | (with_reducible assumption) | ((with_reducible refine Below.setCell ?_ ?_ _); rotate_left; · (first | exact Nat.le_refl _ | (simp; done) | (simp; omega) | omega)) | ((with_reducible refine Below.alloc ?_ ?_ _); rotate_left; · (first | exact Nat.le_refl _ | (simp; done) | (simp; omega) | omega)) | (with_reducible apply Below.drew) | (with_reducible apply below_drewN') | (refine Below.trans ?_ (Below.mono (by assumption) (by first | exact Nat.le_refl _ | (simp; done) | (simp; omega) | omega))) | exact Below.refl _ _ | assumption)) (by repeat (first | (with_reducible exact Below.refl _ _) | (with_reducible assumption) | ((with_reducible refine Below.setCell ?_ ?_ _); rotate_left; · (first | exact Nat.le_refl _ | (simp; done) | (simp; omega) | omega)) | ((with_reducible refine Below.alloc ?_ ?_ _); rotate_left; · (first | exact Nat.le_refl _ | (simp; done) | (simp; omega) | omega)) | (with_reducible apply Below.drew) | (with_reducible apply below_drewN') | (refine Below.trans ?_ (Below.mono (by assumption) (by first | exact Nat.le_refl _ | (simp; done) | (simp; omega) | omega))) | exact Below.refl _ _ | assumption))
  case ca2R11 => (first | (simp [Act.put]; done) | (simp [Act.put, *]; done))
  try dsimp only
  refine wpW_det (t' := ?ct3R11) 3 (by rfl) (by kernel_rfl) (NQ_free _) (by kernel_rfl) ?cw3R11 ?ch3R11 ?ca3R11 (Eq.refl _) ?cH3R11
  case cw3R11 => (go_simp; done)
  case ch3R11 =>
    intro ds w' hS K hK
    have hc := (bcell hS).1
    have hf := (bcell hS).2
    have hz := hS.size
    try simp at hz
    go_simp
    try go_bits
    first
      | exact hK _ hS (Gr.refl _)
      | (go_at_call 27; refine (lawPoint_any _ _ _).mono ?_; rintro e w1 ⟨rfl, hB1⟩; obtain ⟨hc1, hf1⟩ := bcell hB1; have hz1 := hB1.size; (try simp at hz1); exact hK _ (Below.trans hS (Below.mono hB1 (by first | exact Nat.le_refl _ | (simp; done) | (simp; omega) | omega))) hB1)
      | exact hK _ (by repeat (first | (with_reducible exact Below.refl _ _) | (with_reducible assumption) | ((with_reducible refine Below.setCell ?_ ?_ _); rotate_left; · (first | exact Nat.le_refl _ | (simp; done) | (simp; omega) | omega)) | ((with_reducible refine Below.alloc ?_ ?_ _); rotate_left; · (first | exact Nat.le_refl _ | (simp; done) | (simp; omega) | omega)) | (with_reducible apply Below.drew) | (with_reducible apply below_drewN') | (refine Below.trans ?_ (Below.mono (by assumption) (by first | exact Nat.le_refl _ | (simp; done) | (simp; omega) | omega))) | exact Below.refl _ _ | assumption)) (by repeat (first | (with_reducible exact Below.refl _ _) | (with_reducible assumption) | ((with_reducible refine Below.setCell ?_ ?_ _); rotate_left; · (first | exact Nat.le_refl _ | (simp; done) | (simp; omega) | omega)) | ((with_reducible refine Below.alloc ?_ ?_ _); rotate_left; · (first | exact Nat.le_refl _ | (simp; done) | (simp; omega) | omega)) | (with_reducible apply Below.drew) | (with_reducible apply below_drewN') | (refine Below.trans ?_ (Below.mono (by assumption) (by first | exact Nat.le_refl _ | (simp; done) | (simp; omega) | omega))) | exact Below.refl _ _ | assumption))
  case ca3R11 => (first | (simp [Act.put]; done) | (simp [Act.put, *]; done))
  try dsimp only
  refine wpW_det (t' := ?ct4R11) 4 (by rfl) (by kernel_rfl) (NQ_free _) (by kernel_rfl) ?cw4R11 ?ch4R11 ?ca4R11 (Eq.refl _) ?cH4R11
  case cw4R11 => (go_simp; done)
  case ch4R11 =>
    intro ds w' hS K hK
    have hc := (bcell hS).1
    have hf := (bcell hS).2
    have hz := hS.size
    try simp at hz
    go_simp
    try go_bits
    first
      | exact hK _ hS (Gr.refl _)
      | (go_at_call 27; refine (lawPoint_any _ _ _).mono ?_; rintro e w1 ⟨rfl, hB1⟩; obtain ⟨hc1, hf1⟩ := bcell hB1; have hz1 := hB1.size; (try simp at hz1); exact hK _ (Below.trans hS (Below.mono hB1 (by first | exact Nat.le_refl _ | (simp; done) | (simp; omega) | omega))) hB1)
      | exact hK _ (by repeat (first | (with_reducible exact Below.refl _ _) | (with_reducible assumption) | ((with_reducible refine Below.setCell ?_ ?_ _); rotate_left; · (first | exact Nat.le_refl _ | (simp; done) | (simp; omega) | omega)) | ((with_reducible refine Below.alloc ?_ ?_ _); rotate_left; · (first | exact Nat.le_refl _ | (simp; done) | (simp; omega) | omega)) | (with_reducible apply Below.drew) | (with_reducible apply below_drewN') | (refine Below.trans ?_ (Below.mono (by assumption) (by first | exact Nat.le_refl _ | (simp; done) | (simp; omega) | omega))) | exact Below.refl _ _ | assumption)) (by repeat (first | (with_reducible exact Below.refl _ _) | (with_reducible assumption) | ((with_reducible refine Below.setCell ?_ ?_ _); rotate_left; · (first | exact Nat.le_refl _ | (simp; done) | (simp; omega) | omega)) | ((with_reducible refine Below.alloc ?_ ?_ _); rotate_left; · (first | exact Nat.le_refl _ | (simp; done) | (simp; omega) | omega)) | (with_reducible apply Below.drew) | (with_reducible apply below_drewN') | (refine Below.trans ?_ (Below.mono (by assumption) (by first | exact Nat.le_refl _ | (simp; done) | (simp; omega) | omega))) | exact Below.refl _ _ | assumption))
  case ca4R11 => (first | (simp [Act.put]; done) | (simp [Act.put, *]; done))
  try dsimp only
  refine wpW_det (t' := ?ct5R11) 5 (by rfl) (by kernel_rfl) (NQ_free _) (by kernel_rfl) ?cw5R11 ?ch5R11 ?ca5R11 (Eq.refl _) ?cH5R11
  case cw5R11 => (go_simp; done)
  case ch5R11 =>
    intro ds w' hS K hK
    have hc := (bcell hS).1
    have hf := (bcell hS).2
    have hz := hS.size
    try simp at hz
    go_simp
    try go_bits
    first
      | exact hK _ hS (Gr.refl _)
      | (go_at_call 27; refine (lawPoint_any _ _ _).mono ?_; rintro e w1 ⟨rfl, hB1⟩; obtain ⟨hc1, hf1⟩ := bcell hB1; have hz1 := hB1.size; (try simp at hz1); exact hK _ (Below.trans hS (Below.mono hB1 (by first | exact Nat.le_refl _ | (simp; done) | (simp; omega) | omega))) hB1)
      | exact hK _ (by repeat (first | (with_reducible exact Below.refl _ _) | (with_reducible assumption) | ((with_reducible refine Below.setCell ?_ ?_ _); rotate_left; · (first | exact Nat.le_refl _ | (simp; done) | (simp; omega) | omega)) | ((with_reducible refine Below.alloc ?_ ?_ _); rotate_left; · (first | exact Nat.le_refl _ | (simp; done) | (simp; omega) | omega)) | (with_reducible apply Below.drew) | (with_reducible apply below_drewN') | (refine Below.trans ?_ (Below.mono (by assumption) (by first | exact Nat.le_refl _ | (simp; done) | (simp; omega) | omega))) | exact Below.refl _ _ | assumption)) (by repeat (first | (with_reducible exact Below.refl _ _) | (with_reducible assumption) | ((with_reducible refine Below.setCell ?_ ?_ _); rotate_left; · (first | exact Nat.le_refl _ | (simp; done) | (simp; omega) | omega)) | ((with_reducible refine Below.alloc ?_ ?_ _); rotate_left; · (first | exact Nat.le_refl _ | (simp; done) | (simp; omega) | omega)) | (with_reducible apply Below.drew) | (with_reducible apply below_drewN') | (refine Below.trans ?_ (Below.mono (by assumption) (by first | exact Nat.le_refl _ | (simp; done) | (simp; omega) | omega))) | exact Below.refl _ _ | assumption))
  case ca5R11 => (first | (simp [Act.put]; done) | (simp [Act.put, *]; done))
  try dsimp only
  refine wpW_det (t' := ?ct6R11) 6 (by rfl) (by kernel_rfl) (NQ_free _) (by kernel_rfl) ?cw6R11 ?ch6R11 ?ca6R11 (Eq.refl _) ?cH6R11
  case cw6R11 => (go_simp; done)
  case ch6R11 =>
    intro ds w' hS K hK
    have hc := (bcell hS).1
    have hf := (bcell hS).2
    have hz := hS.size
    try simp at hz
    go_simp
    try go_bits
    first
      | exact hK _ hS (Gr.refl _)
      | (go_at_call 27; refine (lawPoint_any _ _ _).mono ?_; rintro e w1 ⟨rfl, hB1⟩; obtain ⟨hc1, hf1⟩ := bcell hB1; have hz1 := hB1.size; (try simp at hz1); exact hK _ (Below.trans hS (Below.mono hB1 (by first | exact Nat.le_refl _ | (simp; done) | (simp; omega) | omega))) hB1)
      | exact hK _ (by repeat (first | (with_reducible exact Below.refl _ _) | (with_reducible assumption) | ((with_reducible refine Below.setCell ?_ ?_ _); rotate_left; · (first | exact Nat.le_refl _ | (simp; done) | (simp; omega) | omega)) | ((with_reducible refine Below.alloc ?_ ?_ _); rotate_left; · (first | exact Nat.le_refl _ | (simp; done) | (simp; omega) | omega)) | (with_reducible apply Below.drew) | (with_reducible apply below_drewN') | (refine Below.trans ?_ (Below.mono (by assumption) (by first | exact Nat.le_refl _ | (simp; done) | (simp; omega) | omega))) | exact Below.refl _ _ | assumption)) (by repeat (first | (with_reducible exact Below.refl _ _) | (with_reducible assumption) | ((with_reducible refine Below.setCell ?_ ?_ _); rotate_left; · (first | exact Nat.le_refl _ | (simp; done) | (simp; omega) | omega)) | ((with_reducible refine Below.alloc ?_ ?_ _); rotate_left; · (first | exact Nat.le_refl _ | (simp; done) | (simp; omega) | omega)) | (with_reducible apply Below.drew) | (with_reducible apply below_drewN') | (refine Below.trans ?_ (Below.mono (by assumption) (by first | exact Nat.le_refl _ | (simp; done) | (simp; omega) | omega))) | exact Below.refl _ _ | assumption))
  case ca6R11 => (first | (simp [Act.put]; done) | (simp [Act.put, *]; done))
  try dsimp only
  refine wpW_det (t' := ?ct7R11) 7 (by rfl) (by kernel_rfl) (NQ_free _) (by kernel_rfl) ?cw7R11 ?ch7R11 ?ca7R11 (Eq.refl _) ?cH7R11
  case cw7R11 => (go_simp; done)
  case ch7R11 =>
    intro ds w' hS K hK
    have hc := (bcell hS).1
    have hf := (bcell hS).2
    have hz := hS.size
    try simp at hz
    go_simp
    try go_bits
    first
      | exact hK _ hS (Gr.refl _)
      | (go_at_call 27; refine (lawPoint_any _ _ _).mono ?_; rintro e w1 ⟨rfl, hB1⟩; obtain ⟨hc1, hf1⟩ := bcell hB1; have hz1 := hB1.size; (try simp at hz1); exact hK _ (Below.trans hS (Below.mono hB1 (by first | exact Nat.le_refl _ | (simp; done) | (simp; omega) | omega))) hB1)
      | exact hK _ (by repeat (first | (with_reducible exact Below.refl _ _) | (with_reducible assumption) | ((with_reducible refine Below.setCell ?_ ?_ _); rotate_left; · (first | exact Nat.le_refl _ | (simp; done) | (simp; omega) | omega)) | ((with_reducible refine Below.alloc ?_ ?_ _); rotate_left; · (first | exact Nat.le_refl _ | (simp; done) | (simp; omega) | omega)) | (with_reducible apply Below.drew) | (with_reducible apply below_drewN') | (refine Below.trans ?_ (Below.mono (by assumption) (by first | exact Nat.le_refl _ | (simp; done) | (simp; omega) | omega))) | exact Below.refl _ _ | assumption)) (by repeat (first | (with_reducible exact Below.refl _ _) | (with_reducible assumption) | ((with_reducible refine Below.setCell ?_ ?_ _); rotate_left; · (first | exact Nat.le_refl _ | (simp; done) | (simp; omega) | omega)) | ((with_reducible refine Below.alloc ?_ ?_ _); rotate_left; · (first | exact Nat.le_refl _ | (simp; done) | (simp; omega) | omega)) | (with_reducible apply Below.drew) | (with_reducible apply below_drewN') | (refine Below.trans ?_ (Below.mono (by assumption) (by first | exact Nat.le_refl _ | (simp; done) | (simp; omega) | omega))) | exact Below.refl _ _ | assumption))
  case ca7R11 => (first | (simp [Act.put]; done) | (simp [Act.put, *]; done))
  try dsimp only
  refine wpW_det (t' := ?ct8R11) 8 (by rfl) (by kernel_rfl) (NQ_free _) (by kernel_rfl) ?cw8R11 ?ch8R11 ?ca8R11 (Eq.refl _) ?cH8R11
  case cw8R11 => (go_simp; done)
  case ch8R11 =>
    intro ds w' hS K hK
    have hc := (bcell hS).1
    have hf := (bcell hS).2
    have hz := hS.size
    try simp at hz
    go_simp
    try go_bits
    first
      | exact hK _ hS (Gr.refl _)
      | (go_at_call 27; refine (lawPoint_any _ _ _).mono ?_; rintro e w1 ⟨rfl, hB1⟩; obtain ⟨hc1, hf1⟩ := bcell hB1; have hz1 := hB1.size; (try simp at hz1); exact hK _ (Below.trans hS (Below.mono hB1 (by first | exact Nat.le_refl _ | (simp; done) | (simp; omega) | omega))) hB1)
      | exact hK _ (by repeat (first | (with_reducible exact Below.refl _ _) | (with_reducible assumption) | ((with_reducible refine Below.setCell ?_ ?_ _); rotate_left; · (first | exact Nat.le_refl _ | (simp; done) | (simp; omega) | omega)) | ((with_reducible refine Below.alloc ?_ ?_ _); rotate_left; · (first | exact Nat.le_refl _ | (simp; done) | (simp; omega) | omega)) | (with_reducible apply Below.drew) | (with_reducible apply below_drewN') | (refine Below.trans ?_ (Below.mono (by assumption) (by first | exact Nat.le_refl _ | (simp; done) | (simp; omega) | omega))) | exact Below.refl _ _ | assumption)) (by repeat (first | (with_reducible exact Below.refl _ _) | (with_reducible assumption) | ((with_reducible refine Below.setCell ?_ ?_ _); rotate_left; · (first | exact Nat.le_refl _ | (simp; done) | (simp; omega) | omega)) | ((with_reducible refine Below.alloc ?_ ?_ _); rotate_left; · (first | exact Nat.le_refl _ | (simp; done) | (simp; omega) | omega)) | (with_reducible apply Below.drew) | (with_reducible apply below_drewN') | (refine Below.trans ?_ (Below.mono (by assumption) (by first | exact Nat.le_refl _ | (simp; done) | (simp; omega) | omega))) | exact Below.refl _ _ | assumption))
  case ca8R11 => (first | (simp [Act.put]; done) | (simp [Act.put, *]; done))
  try dsimp only
  refine wpW_det (t' := ?ct9R11) 9 (by rfl) (by kernel_rfl) (NQ_free _) (by kernel_rfl) ?cw9R11 ?ch9R11 ?ca9R11 (Eq.refl _) ?cH9R11
  case cw9R11 => (go_simp; done)
  case ch9R11 =>
    intro ds w' hS K hK
    have hc := (bcell hS).1
    have hf := (bcell hS).2
    have hz := hS.size
    try simp at hz
    go_simp
    try go_bits
    first
      | exact hK _ hS (Gr.refl _)
      | (go_at_call 27; refine (lawPoint_any _ _ _).mono ?_; rintro e w1 ⟨rfl, hB1⟩; obtain ⟨hc1, hf1⟩ := bcell hB1; have hz1 := hB1.size; (try simp at hz1); exact hK _ (Below.trans hS (Below.mono hB1 (by first | exact Nat.le_refl _ | (simp; done) | (simp; omega) | omega))) hB1)
      | exact hK _ (by repeat (first | (with_reducible exact Below.refl _ _) | (with_reducible assumption) | ((with_reducible refine Below.setCell ?_ ?_ _); rotate_left; · (first | exact Nat.le_refl _ | (simp; done) | (simp; omega) | omega)) | ((with_reducible refine Below.alloc ?_ ?_ _); rotate_left; · (first | exact Nat.le_refl _ | (simp; done) | (simp; omega) | omega)) | (with_reducible apply Below.drew) | (with_reducible apply below_drewN') | (refine Below.trans ?_ (Below.mono (by assumption) (by first | exact Nat.le_refl _ | (simp; done) | (simp; omega) | omega))) | exact Below.refl _ _ | assumption)) (by repeat (first | (with_reducible exact Below.refl _ _) | (with_reducible assumption) | ((with_reducible refine Below.setCell ?_ ?_ _); rotate_left; · (first | exact Nat.le_refl _ | (simp; done) | (simp; omega) | omega)) | ((with_reducible refine Below.alloc ?_ ?_ _); rotate_left; · (first | exact Nat.le_refl _ | (simp; done) | (simp; omega) | omega)) | (with_reducible apply Below.drew) | (with_reducible apply below_drewN') | (refine Below.trans ?_ (Below.mono (by assumption) (by first | exact Nat.le_refl _ | (simp; done) | (simp; omega) | omega))) | exact Below.refl _ _ | assumption))
  case ca9R11 => (first | (simp [Act.put]; done) | (simp [Act.put, *]; done))
  try dsimp only
  refine wpW_det (t' := ?ct10R11) 10 (by rfl) (by kernel_rfl) (NQ_free _) (by kernel_rfl) ?cw10R11 ?ch10R11 ?ca10R11 (Eq.refl _) ?cH10R11
  case cw10R11 => (go_simp; done)
  case ch10R11 =>
    intro ds w' hS K hK
    have hc := (bcell hS).1
    have hf := (bcell hS).2
    have hz := hS.size
    try simp at hz
    go_simp
    try go_bits
    first
      | exact hK _ hS (Gr.refl _)
      | (go_at_call 27; refine (lawPoint_any _ _ _).mono ?_; rintro e w1 ⟨rfl, hB1⟩; obtain ⟨hc1, hf1⟩ := bcell hB1; have hz1 := hB1.size; (try simp at hz1); exact hK _ (Below.trans hS (Below.mono hB1 (by first | exact Nat.le_refl _ | (simp; done) | (simp; omega) | omega))) hB1)
      | exact hK _ (by repeat (first | (with_reducible exact Below.refl _ _) | (with_reducible assumption) | ((with_reducible refine Below.setCell ?_ ?_ _); rotate_left; · (first | exact Nat.le_refl _ | (simp; done) | (simp; omega) | omega)) | ((with_reducible refine Below.alloc ?_ ?_ _); rotate_left; · (first | exact Nat.le_refl _ | (simp; done) | (simp; omega) | omega)) | (with_reducible apply Below.drew) | (with_reducible apply below_drewN') | (refine Below.trans ?_ (Below.mono (by assumption) (by first | exact Nat.le_refl _ | (simp; done) | (simp; omega) | omega))) | exact Below.refl _ _ | assumption)) (by repeat (first | (with_reducible exact Below.refl _ _) | (with_reducible assumption) | ((with_reducible refine Below.setCell ?_ ?_ _); rotate_left; · (first | exact Nat.le_refl _ | (simp; done) | (simp; omega) | omega)) | ((with_reducible refine Below.alloc ?_ ?_ _); rotate_left; · (first | exact Nat.le_refl _ | (simp; done) | (simp; omega) | omega)) | (with_reducible apply Below.drew) | (with_reducible apply below_drewN') | (refine Below.trans ?_ (Below.mono (by assumption) (by first | exact Nat.le_refl _ | (simp; done) | (simp; omega) | omega))) | exact Below.refl _ _ | assumption))
  case ca10R11 => (first | (simp [Act.put]; done) | (simp [Act.put, *]; done))
  try dsimp only
  refine wpW_det (t' := ?ct11R11) 11 (by rfl) (by kernel_rfl) (NQ_free _) (by kernel_rfl) ?cw11R11 ?ch11R11 ?ca11R11 (Eq.refl _) ?cH11R11
  case cw11R11 => (go_simp; done)
  case ch11R11 =>
    intro ds w' hS K hK
    have hc := (bcell hS).1
    have hf := (bcell hS).2
    have hz := hS.size
    try simp at hz
    go_simp
    try go_bits
    first
      | exact hK _ hS (Gr.refl _)
      | (go_at_call 27; refine (lawPoint_any _ _ _).mono ?_; rintro e w1 ⟨rfl, hB1⟩; obtain ⟨hc1, hf1⟩ := bcell hB1; have hz1 := hB1.size; (try simp at hz1); exact hK _ (Below.trans hS (Below.mono hB1 (by first | exact Nat.le_refl _ | (simp; done) | (simp; omega) | omega))) hB1)
      | exact hK _ (by repeat (first | (with_reducible exact Below.refl _ _) | (with_reducible assumption) | ((with_reducible refine Below.setCell ?_ ?_ _); rotate_left; · (first | exact Nat.le_refl _ | (simp; done) | (simp; omega) | omega)) | ((with_reducible refine Below.alloc ?_ ?_ _); rotate_left; · (first | exact Nat.le_refl _ | (simp; done) | (simp; omega) | omega)) | (with_reducible apply Below.drew) | (with_reducible apply below_drewN') | (refine Below.trans ?_ (Below.mono (by assumption) (by first | exact Nat.le_refl _ | (simp; done) | (simp; omega) | omega))) | exact Below.refl _ _ | assumption)) (by repeat (first | (with_reducible exact Below.refl _ _) | (with_reducible assumption) | ((with_reducible refine Below.setCell ?_ ?_ _); rotate_left; · (first | exact Nat.le_refl _ | (simp; done) | (simp; omega) | omega)) | ((with_reducible refine Below.alloc ?_ ?_ _); rotate_left; · (first | exact Nat.le_refl _ | (simp; done) | (simp; omega) | omega)) | (with_reducible apply Below.drew) | (with_reducible apply below_drewN') | (refine Below.trans ?_ (Below.mono (by assumption) (by first | exact Nat.le_refl _ | (simp; done) | (simp; omega) | omega))) | exact Below.refl _ _ | assumption))
  case ca11R11 => (first | (simp [Act.put]; done) | (simp [Act.put, *]; done))
  try dsimp only
  refine wpW_det (t' := ?ct12R11) 12 (by rfl) (by kernel_rfl) (NQ_free _) (by kernel_rfl) ?cw12R11 ?ch12R11 ?ca12R11 (Eq.refl _) ?cH12R11
  case cw12R11 => (go_simp; done)
  case ch12R11 =>
    intro ds w' hS K hK
    have hc := (bcell hS).1
    have hf := (bcell hS).2
    have hz := hS.size
    try simp at hz
    go_simp
    try go_bits
    first
      | exact hK _ hS (Gr.refl _)
      | (go_at_call 27; refine (lawPoint_any _ _ _).mono ?_; rintro e w1 ⟨rfl, hB1⟩; obtain ⟨hc1, hf1⟩ := bcell hB1; have hz1 := hB1.size; (try simp at hz1); exact hK _ (Below.trans hS (Below.mono hB1 (by first | exact Nat.le_refl _ | (simp; done) | (simp; omega) | omega))) hB1)
      | exact hK _ (by repeat (first | (with_reducible exact Below.refl _ _) | (with_reducible assumption) | ((with_reducible refine Below.setCell ?_ ?_ _); rotate_left; · (first | exact Nat.le_refl _ | (simp; done) | (simp; omega) | omega)) | ((with_reducible refine Below.alloc ?_ ?_ _); rotate_left; · (first | exact Nat.le_refl _ | (simp; done) | (simp; omega) | omega)) | (with_reducible apply Below.drew) | (with_reducible apply below_drewN') | (refine Below.trans ?_ (Below.mono (by assumption) (by first | exact Nat.le_refl _ | (simp; done) | (simp; omega) | omega))) | exact Below.refl _ _ | assumption)) (by repeat (first | (with_reducible exact Below.refl _ _) | (with_reducible assumption) | ((with_reducible refine Below.setCell ?_ ?_ _); rotate_left; · (first | exact Nat.le_refl _ | (simp; done) | (simp; omega) | omega)) | ((with_reducible refine Below.alloc ?_ ?_ _); rotate_left; · (first | exact Nat.le_refl _ | (simp; done) | (simp; omega) | omega)) | (with_reducible apply Below.drew) | (with_reducible apply below_drewN') | (refine Below.trans ?_ (Below.mono (by assumption) (by first | exact Nat.le_refl _ | (simp; done) | (simp; omega) | omega))) | exact Below.refl _ _ | assumption))
  case ca12R11 => (first | (simp [Act.put]; done) | (simp [Act.put, *]; done))
  try dsimp only
  refine wpW_det (t' := ?ct13R11) 13 (by rfl) (by kernel_rfl) (NQ_free _) (by kernel_rfl) ?cw13R11 ?ch13R11 ?ca13R11 (Eq.refl _) ?cH13R11
  case cw13R11 => (go_simp; done)
  case ch13R11 =>
    intro ds w' hS K hK
    have hc := (bcell hS).1
    have hf := (bcell hS).2
    have hz := hS.size
    try simp at hz
    go_simp
    try go_bits
    first
      | exact hK _ hS (Gr.refl _)
      | (go_at_call 27; refine (lawPoint_any _ _ _).mono ?_; rintro e w1 ⟨rfl, hB1⟩; obtain ⟨hc1, hf1⟩ := bcell hB1; have hz1 := hB1.size; (try simp at hz1); exact hK _ (Below.trans hS (Below.mono hB1 (by first | exact Nat.le_refl _ | (simp; done) | (simp; omega) | omega))) hB1)
      | exact hK _ (by repeat (first | (with_reducible exact Below.refl _ _) | (with_reducible assumption) | ((with_reducible refine Below.setCell ?_ ?_ _); rotate_left; · (first | exact Nat.le_refl _ | (simp; done) | (simp; omega) | omega)) | ((with_reducible refine Below.alloc ?_ ?_ _); rotate_left; · (first | exact Nat.le_refl _ | (simp; done) | (simp; omega) | omega)) | (with_reducible apply Below.drew) | (with_reducible apply below_drewN') | (refine Below.trans ?_ (Below.mono (by assumption) (by first | exact Nat.le_refl _ | (simp; done) | (simp; omega) | omega))) | exact Below.refl _ _ | assumption)) (by repeat (first | (with_reducible exact Below.refl _ _) | (with_reducible assumption) | ((with_reducible refine Below.setCell ?_ ?_ _); rotate_left; · (first | exact Nat.le_refl _ | (simp; done) | (simp; omega) | omega)) | ((with_reducible refine Below.alloc ?_ ?_ _); rotate_left; · (first | exact Nat.le_refl _ | (simp; done) | (simp; omega) | omega)) | (with_reducible apply Below.drew) | (with_reducible apply below_drewN') | (refine Below.trans ?_ (Below.mono (by assumption) (by first | exact Nat.le_refl _ | (simp; done) | (simp; omega) | omega))) | exact Below.refl _ _ | assumption))
  case ca13R11 => (first | (simp [Act.put]; done) | (simp [Act.put, *]; done))
  try dsimp only
  refine wpW_det (t' := ?ct14R11) 14 (by rfl) (by kernel_rfl) (NQ_free _) (by kernel_rfl) ?cw14R11 ?ch14R11 ?ca14R11 (Eq.refl _) ?cH14R11
  case cw14R11 => (go_simp; done)
  case ch14R11 =>
    intro ds w' hS K hK
    have hc := (bcell hS).1
    have hf := (bcell hS).2
    have hz := hS.size
    try simp at hz
    go_simp
    try go_bits
    first
      | exact hK _ hS (Gr.refl _)
      | (go_at_call 27; refine (lawPoint_any _ _ _).mono ?_; rintro e w1 ⟨rfl, hB1⟩; obtain ⟨hc1, hf1⟩ := bcell hB1; have hz1 := hB1.size; (try simp at hz1); exact hK _ (Below.trans hS (Below.mono hB1 (by first | exact Nat.le_refl _ | (simp; done) | (simp; omega) | omega))) hB1)
      | exact hK _ (by repeat (first | (with_reducible exact Below.refl _ _) | (with_reducible assumption) | ((with_reducible refine Below.setCell ?_ ?_ _); rotate_left; · (first | exact Nat.le_refl _ | (simp; done) | (simp; omega) | omega)) | ((with_reducible refine Below.alloc ?_ ?_ _); rotate_left; · (first | exact Nat.le_refl _ | (simp; done) | (simp; omega) | omega)) | (with_reducible apply Below.drew) | (with_reducible apply below_drewN') | (refine Below.trans ?_ (Below.mono (by assumption) (by first | exact Nat.le_refl _ | (simp; done) | (simp; omega) | omega))) | exact Below.refl _ _ | assumption)) (by repeat (first | (with_reducible exact Below.refl _ _) | (with_reducible assumption) | ((with_reducible refine Below.setCell ?_ ?_ _); rotate_left; · (first | exact Nat.le_refl _ | (simp; done) | (simp; omega) | omega)) | ((with_reducible refine Below.alloc ?_ ?_ _); rotate_left; · (first | exact Nat.le_refl _ | (simp; done) | (simp; omega) | omega)) | (with_reducible apply Below.drew) | (with_reducible apply below_drewN') | (refine Below.trans ?_ (Below.mono (by assumption) (by first | exact Nat.le_refl _ | (simp; done) | (simp; omega) | omega))) | exact Below.refl _ _ | assumption))
  case ca14R11 => (first | (simp [Act.put]; done) | (simp [Act.put, *]; done))
  try dsimp only
  refine wpW_det (t' := ?ct15R11) 15 (by rfl) (by kernel_rfl) (NQ_free _) (by kernel_rfl) ?cw15R11 ?ch15R11 ?ca15R11 (Eq.refl _) ?cH15R11
  case cw15R11 => (go_simp; done)
  case ch15R11 =>
    intro ds w' hS K hK
    have hc := (bcell hS).1
    have hf := (bcell hS).2
    have hz := hS.size
    try simp at hz
    go_simp
    try go_bits
    first
      | exact hK _ hS (Gr.refl _)
      | (go_at_call 27; refine (lawPoint_any _ _ _).mono ?_; rintro e w1 ⟨rfl, hB1⟩; obtain ⟨hc1, hf1⟩ := bcell hB1; have hz1 := hB1.size; (try simp at hz1); exact hK _ (Below.trans hS (Below.mono hB1 (by first | exact Nat.le_refl _ | (simp; done) | (simp; omega) | omega))) hB1)
      | exact hK _ (by repeat (first | (with_reducible exact Below.refl _ _) | (with_reducible assumption) | ((with_reducible refine Below.setCell ?_ ?_ _); rotate_left; · (first | exact Nat.le_refl _ | (simp; done) | (simp; omega) | omega)) | ((with_reducible refine Below.alloc ?_ ?_ _); rotate_left; · (first | exact Nat.le_refl _ | (simp; done) | (simp; omega) | omega)) | (with_reducible apply Below.drew) | (with_reducible apply below_drewN') | (refine Below.trans ?_ (Below.mono (by assumption) (by first | exact Nat.le_refl _ | (simp; done) | (simp; omega) | omega))) | exact Below.refl _ _ | assumption)) (by repeat (first | (with_reducible exact Below.refl _ _) | (with_reducible assumption) | ((with_reducible refine Below.setCell ?_ ?_ _); rotate_left; · (first | exact Nat.le_refl _ | (simp; done) | (simp; omega) | omega)) | ((with_reducible refine Below.alloc ?_ ?_ _); rotate_left; · (first | exact Nat.le_refl _ | (simp; done) | (simp; omega) | omega)) | (with_reducible apply Below.drew) | (with_reducible apply below_drewN') | (refine Below.trans ?_ (Below.mono (by assumption) (by first | exact Nat.le_refl _ | (simp; done) | (simp; omega) | omega))) | exact Below.refl _ _ | assumption))
  case ca15R11 => (first | (simp [Act.put]; done) | (simp [Act.put, *]; done))
  try dsimp only
  refine wpW_det (t' := ?ct16R11) 16 (by rfl) (by kernel_rfl) (NQ_free _) (by kernel_rfl) ?cw16R11 ?ch16R11 ?ca16R11 (Eq.refl _) ?cH16R11
  case cw16R11 => (go_simp; done)
  case ch16R11 =>
    intro ds w' hS K hK
    have hc := (bcell hS).1
    have hf := (bcell hS).2
    have hz := hS.size
    try simp at hz
    go_simp
    try go_bits
    first
      | exact hK _ hS (Gr.refl _)
      | (go_at_call 27; refine (lawPoint_any _ _ _).mono ?_; rintro e w1 ⟨rfl, hB1⟩; obtain ⟨hc1, hf1⟩ := bcell hB1; have hz1 := hB1.size; (try simp at hz1); exact hK _ (Below.trans hS (Below.mono hB1 (by first | exact Nat.le_refl _ | (simp; done) | (simp; omega) | omega))) hB1)
      | exact hK _ (by repeat (first | (with_reducible exact Below.refl _ _) | (with_reducible assumption) | ((with_reducible refine Below.setCell ?_ ?_ _); rotate_left; · (first | exact Nat.le_refl _ | (simp; done) | (simp; omega) | omega)) | ((with_reducible refine Below.alloc ?_ ?_ _); rotate_left; · (first | exact Nat.le_refl _ | (simp; done) | (simp; omega) | omega)) | (with_reducible apply Below.drew) | (with_reducible apply below_drewN') | (refine Below.trans ?_ (Below.mono (by assumption) (by first | exact Nat.le_refl _ | (simp; done) | (simp; omega) | omega))) | exact Below.refl _ _ | assumption)) (by repeat (first | (with_reducible exact Below.refl _ _) | (with_reducible assumption) | ((with_reducible refine Below.setCell ?_ ?_ _); rotate_left; · (first | exact Nat.le_refl _ | (simp; done) | (simp; omega) | omega)) | ((with_reducible refine Below.alloc ?_ ?_ _); rotate_left; · (first | exact Nat.le_refl _ | (simp; done) | (simp; omega) | omega)) | (with_reducible apply Below.drew) | (with_reducible apply below_drewN') | (refine Below.trans ?_ (Below.mono (by assumption) (by first | exact Nat.le_refl _ | (simp; done) | (simp; omega) | omega))) | exact Below.refl _ _ | assumption))
  case ca16R11 => (first | (simp [Act.put]; done) | (simp [Act.put, *]; done))
  try dsimp only
  refine wpW_det (t' := ?ct17R11) 17 (by rfl) (by kernel_rfl) (NQ_free _) (by kernel_rfl) ?cw17R11 ?ch17R11 ?ca17R11 (Eq.refl _) ?cH17R11
  case cw17R11 => (go_simp; done)
  case ch17R11 =>
    intro ds w' hS K hK
    have hc := (bcell hS).1
    have hf := (bcell hS).2
    have hz := hS.size
    try simp at hz
    go_simp
    try go_bits
    first
      | exact hK _ hS (Gr.refl _)
      | (go_at_call 27; refine (lawPoint_any _ _ _).mono ?_; rintro e w1 ⟨rfl, hB1⟩; obtain ⟨hc1, hf1⟩ := bcell hB1; have hz1 := hB1.size; (try simp at hz1); exact hK _ (Below.trans hS (Below.mono hB1 (by first | exact Nat.le_refl _ | (simp; done) | (simp; omega) | omega))) hB1)
      | exact hK _ (by repeat (first | (with_reducible exact Below.refl _ _) | (with_reducible assumption) | ((with_reducible refine Below.setCell ?_ ?_ _); rotate_left; · (first | exact Nat.le_refl _ | (simp; done) | (simp; omega) | omega)) | ((with_reducible refine Below.alloc ?_ ?_ _); rotate_left; · (first | exact Nat.le_refl _ | (simp; done) | (simp; omega) | omega)) | (with_reducible apply Below.drew) | (with_reducible apply below_drewN') | (refine Below.trans ?_ (Below.mono (by assumption) (by first | exact Nat.le_refl _ | (simp; done) | (simp; omega) | omega))) | exact Below.refl _ _ | assumption)) (by repeat (first | (with_reducible exact Below.refl _ _) | (with_reducible assumption) | ((with_reducible refine Below.setCell ?_ ?_ _); rotate_left; · (first | exact Nat.le_refl _ | (simp; done) | (simp; omega) | omega)) | ((with_reducible refine Below.alloc ?_ ?_ _); rotate_left; · (first | exact Nat.le_refl _ | (simp; done) | (simp; omega) | omega)) | (with_reducible apply Below.drew) | (with_reducible apply below_drewN') | (refine Below.trans ?_ (Below.mono (by assumption) (by first | exact Nat.le_refl _ | (simp; done) | (simp; omega) | omega))) | exact Below.refl _ _ | assumption))
  case ca17R11 => (first | (simp [Act.put]; done) | (simp [Act.put, *]; done))
  try dsimp only
  refine wpW_det (t' := ?ct18R11) 18 (by rfl) (by kernel_rfl) (NQ_free _) (by kernel_rfl) ?cw18R11 ?ch18R11 ?ca18R11 (Eq.refl _) ?cH18R11
  case cw18R11 => (go_simp; done)
  case ch18R11 =>
    intro ds w' hS K hK
    have hc := (bcell hS).1
    have hf := (bcell hS).2
    have hz := hS.size
    try simp at hz
    go_simp
    try go_bits
    first
      | exact hK _ hS (Gr.refl _)
      | (go_at_call 27; refine (lawPoint_any _ _ _).mono ?_; rintro e w1 ⟨rfl, hB1⟩; obtain ⟨hc1, hf1⟩ := bcell hB1; have hz1 := hB1.size; (try simp at hz1); exact hK _ (Below.trans hS (Below.mono hB1 (by first | exact Nat.le_refl _ | (simp; done) | (simp; omega) | omega))) hB1)
      | exact hK _ (by repeat (first | (with_reducible exact Below.refl _ _) | (with_reducible assumption) | ((with_reducible refine Below.setCell ?_ ?_ _); rotate_left; · (first | exact Nat.le_refl _ | (simp; done) | (simp; omega) | omega)) | ((with_reducible refine Below.alloc ?_ ?_ _); rotate_left; · (first | exact Nat.le_refl _ | (simp; done) | (simp; omega) | omega)) | (with_reducible apply Below.drew) | (with_reducible apply below_drewN') | (refine Below.trans ?_ (Below.mono (by assumption) (by first | exact Nat.le_refl _ | (simp; done) | (simp; omega) | omega))) | exact Below.refl _ _ | assumption)) (by repeat (first | (with_reducible exact Below.refl _ _) | (with_reducible assumption) | ((with_reducible refine Below.setCell ?_ ?_ _); rotate_left; · (first | exact Nat.le_refl _ | (simp; done) | (simp; omega) | omega)) | ((with_reducible refine Below.alloc ?_ ?_ _); rotate_left; · (first | exact Nat.le_refl _ | (simp; done) | (simp; omega) | omega)) | (with_reducible apply Below.drew) | (with_reducible apply below_drewN') | (refine Below.trans ?_ (Below.mono (by assumption) (by first | exact Nat.le_refl _ | (simp; done) | (simp; omega) | omega))) | exact Below.refl _ _ | assumption))
  case ca18R11 => (first | (simp [Act.put]; done) | (simp [Act.put, *]; done))
  try dsimp only
  refine wpW_det (t' := ?ct19R11) 19 (by rfl) (by kernel_rfl) (NQ_free _) (by kernel_rfl) ?cw19R11 ?ch19R11 ?ca19R11 (Eq.refl _) ?cH19R11
  case cw19R11 => (go_simp; done)
  case ch19R11 =>
    intro ds w' hS K hK
    have hc := (bcell hS).1
    have hf := (bcell hS).2
    have hz := hS.size
    try simp at hz
    go_simp
    try go_bits
    first
      | exact hK _ hS (Gr.refl _)
      | (go_at_call 27; refine (lawPoint_any _ _ _).mono ?_; rintro e w1 ⟨rfl, hB1⟩; obtain ⟨hc1, hf1⟩ := bcell hB1; have hz1 := hB1.size; (try simp at hz1); exact hK _ (Below.trans hS (Below.mono hB1 (by first | exact Nat.le_refl _ | (simp; done) | (simp; omega) | omega))) hB1)
      | exact hK _ (by repeat (first | (with_reducible exact Below.refl _ _) | (with_reducible assumption) | ((with_reducible refine Below.setCell ?_ ?_ _); rotate_left; · (first | exact Nat.le_refl _ | (simp; done) | (simp; omega) | omega)) | ((with_reducible refine Below.alloc ?_ ?_ _); rotate_left; · (first | exact Nat.le_refl _ | (simp; done) | (simp; omega) | omega)) | (with_reducible apply Below.drew) | (with_reducible apply below_drewN') | (refine Below.trans ?_ (Below.mono (by assumption) (by first | exact Nat.le_refl _ | (simp; done) | (simp; omega) | omega))) | exact Below.refl _ _ | assumption)) (by repeat (first | (with_reducible exact Below.refl _ _) | (with_reducible assumption) | ((with_reducible refine Below.setCell ?_ ?_ _); rotate_left; · (first | exact Nat.le_refl _ | (simp; done) | (simp; omega) | omega)) | ((with_reducible refine Below.alloc ?_ ?_ _); rotate_left; · (first | exact Nat.le_refl _ | (simp; done) | (simp; omega) | omega)) | (with_reducible apply Below.drew) | (with_reducible apply below_drewN') | (refine Below.trans ?_ (Below.mono (by assumption) (by first | exact Nat.le_refl _ | (simp; done) | (simp; omega) | omega))) | exact Below.refl _ _ | assumption))
  case ca19R11 => (first | (simp [Act.put]; done) | (simp [Act.put, *]; done))
  try dsimp only
  refine wpW_det (t' := ?ct20R11) 20 (by rfl) (by kernel_rfl) (NQ_free _) (by kernel_rfl) ?cw20R11 ?ch20R11 ?ca20R11 (Eq.refl _) ?cH20R11
  case cw20R11 => (go_simp; done)
  case ch20R11 =>
    intro ds w' hS K hK
    have hc := (bcell hS).1
    have hf := (bcell hS).2
    have hz := hS.size
    try simp at hz
    go_simp
    try go_bits
    first
      | exact hK _ hS (Gr.refl _)
      | (go_at_call 27; refine (lawPoint_any _ _ _).mono ?_; rintro e w1 ⟨rfl, hB1⟩; obtain ⟨hc1, hf1⟩ := bcell hB1; have hz1 := hB1.size; (try simp at hz1); exact hK _ (Below.trans hS (Below.mono hB1 (by first | exact Nat.le_refl _ | (simp; done) | (simp; omega) | omega))) hB1)
      | exact hK _ (by repeat (first | (with_reducible exact Below.refl _ _) | (with_reducible assumption) | ((with_reducible refine Below.setCell ?_ ?_ _); rotate_left; · (first | exact Nat.le_refl _ | (simp; done) | (simp; omega) | omega)) | ((with_reducible refine Below.alloc ?_ ?_ _); rotate_left; · (first | exact Nat.le_refl _ | (simp; done) | (simp; omega) | omega)) | (with_reducible apply Below.drew) | (with_reducible apply below_drewN') | (refine Below.trans ?_ (Below.mono (by assumption) (by first | exact Nat.le_refl _ | (simp; done) | (simp; omega) | omega))) | exact Below.refl _ _ | assumption)) (by repeat (first | (with_reducible exact Below.refl _ _) | (with_reducible assumption) | ((with_reducible refine Below.setCell ?_ ?_ _); rotate_left; · (first | exact Nat.le_refl _ | (simp; done) | (simp; omega) | omega)) | ((with_reducible refine Below.alloc ?_ ?_ _); rotate_left; · (first | exact Nat.le_refl _ | (simp; done) | (simp; omega) | omega)) | (with_reducible apply Below.drew) | (with_reducible apply below_drewN') | (refine Below.trans ?_ (Below.mono (by assumption) (by first | exact Nat.le_refl _ | (simp; done) | (simp; omega) | omega))) | exact Below.refl _ _ | assumption))
  case ca20R11 => (first | (simp [Act.put]; done) | (simp [Act.put, *]; done))
  try dsimp only
  refine wpW_det (t' := ?ct21R11) 21 (by rfl) (by kernel_rfl) (NQ_free _) (by kernel_rfl) ?cw21R11 ?ch21R11 ?ca21R11 (Eq.refl _) ?cH21R11
  case cw21R11 => (go_simp; done)
  case ch21R11 =>
    intro ds w' hS K hK
    have hc := (bcell hS).1
    have hf := (bcell hS).2
    have hz := hS.size
    try simp at hz
    go_simp
    try go_bits
    first
      | exact hK _ hS (Gr.refl _)
      | (go_at_call 27; refine (lawPoint_any _ _ _).mono ?_; rintro e w1 ⟨rfl, hB1⟩; obtain ⟨hc1, hf1⟩ := bcell hB1; have hz1 := hB1.size; (try simp at hz1); exact hK _ (Below.trans hS (Below.mono hB1 (by first | exact Nat.le_refl _ | (simp; done) | (simp; omega) | omega))) hB1)
      | exact hK _ (by repeat (first | (with_reducible exact Below.refl _ _) | (with_reducible assumption) | ((with_reducible refine Below.setCell ?_ ?_ _); rotate_left; · (first | exact Nat.le_refl _ | (simp; done) | (simp; omega) | omega)) | ((with_reducible refine Below.alloc ?_ ?_ _); rotate_left; · (first | exact Nat.le_refl _ | (simp; done) | (simp; omega) | omega)) | (with_reducible apply Below.drew) | (with_reducible apply below_drewN') | (refine Below.trans ?_ (Below.mono (by assumption) (by first | exact Nat.le_refl _ | (simp; done) | (simp; omega) | omega))) | exact Below.refl _ _ | assumption)) (by repeat (first | (with_reducible exact Below.refl _ _) | (with_reducible assumption) | ((with_reducible refine Below.setCell ?_ ?_ _); rotate_left; · (first | exact Nat.le_refl _ | (simp; done) | (simp; omega) | omega)) | ((with_reducible refine Below.alloc ?_ ?_ _); rotate_left; · (first | exact Nat.le_refl _ | (simp; done) | (simp; omega) | omega)) | (with_reducible apply Below.drew) | (with_reducible apply below_drewN') | (refine Below.trans ?_ (Below.mono (by assumption) (by first | exact Nat.le_refl _ | (simp; done) | (simp; omega) | omega))) | exact Below.refl _ _ | assumption))
  case ca21R11 => (first | (simp [Act.put]; done) | (simp [Act.put, *]; done))
  try dsimp only
  refine wpW_det (t' := ?ct22R11) 22 (by rfl) (by kernel_rfl) (NQ_free _) (by kernel_rfl) ?cw22R11 ?ch22R11 ?ca22R11 (Eq.refl _) ?cH22R11
  case cw22R11 => (go_simp; done)
  case ch22R11 =>
    intro ds w' hS K hK
    have hc := (bcell hS).1
    have hf := (bcell hS).2
    have hz := hS.size
    try simp at hz
    go_simp
    try go_bits
    first
      | exact hK _ hS (Gr.refl _)
      | (go_at_call 27; refine (lawPoint_any _ _ _).mono ?_; rintro e w1 ⟨rfl, hB1⟩; obtain ⟨hc1, hf1⟩ := bcell hB1; have hz1 := hB1.size; (try simp at hz1); exact hK _ (Below.trans hS (Below.mono hB1 (by first | exact Nat.le_refl _ | (simp; done) | (simp; omega) | omega))) hB1)
      | exact hK _ (by repeat (first | (with_reducible exact Below.refl _ _) | (with_reducible assumption) | ((with_reducible refine Below.setCell ?_ ?_ _); rotate_left; · (first | exact Nat.le_refl _ | (simp; done) | (simp; omega) | omega)) | ((with_reducible refine Below.alloc ?_ ?_ _); rotate_left; · (first | exact Nat.le_refl _ | (simp; done) | (simp; omega) | omega)) | (with_reducible apply Below.drew) | (with_reducible apply below_drewN') | (refine Below.trans ?_ (Below.mono (by assumption) (by first | exact Nat.le_refl _ | (simp; done) | (simp; omega) | omega))) | exact Below.refl _ _ | assumption)) (by repeat (first | (with_reducible exact Below.refl _ _) | (with_reducible assumption) | ((with_reducible refine Below.setCell ?_ ?_ _); rotate_left; · (first | exact Nat.le_refl _ | (simp; done) | (simp; omega) | omega)) | ((with_reducible refine Below.alloc ?_ ?_ _); rotate_left; · (first | exact Nat.le_refl _ | (simp; done) | (simp; omega) | omega)) | (with_reducible apply Below.drew) | (with_reducible apply below_drewN') | (refine Below.trans ?_ (Below.mono (by assumption) (by first | exact Nat.le_refl _ | (simp; done) | (simp; omega) | omega))) | exact Below.refl _ _ | assumption))
  case ca22R11 => (first | (simp [Act.put]; done) | (simp [Act.put, *]; done))
  try dsimp only
  refine wpW_det (t' := ?ct23R11) 23 (by rfl) (by kernel_rfl) (NQ_free _) (by kernel_rfl) ?cw23R11 ?ch23R11 ?ca23R11 (Eq.refl _) ?cH23R11
  case cw23R11 => (go_simp; done)
  case ch23R11 =>
    intro ds w' hS K hK
    have hc := (bcell hS).1
    have hf := (bcell hS).2
    have hz := hS.size
    try simp at hz
    go_simp
    try go_bits
    first
      | exact hK _ hS (Gr.refl _)
      | (go_at_call 27; refine (lawPoint_any _ _ _).mono ?_; rintro e w1 ⟨rfl, hB1⟩; obtain ⟨hc1, hf1⟩ := bcell hB1; have hz1 := hB1.size; (try simp at hz1); exact hK _ (Below.trans hS (Below.mono hB1 (by first | exact Nat.le_refl _ | (simp; done) | (simp; omega) | omega))) hB1)
      | exact hK _ (by repeat (first | (with_reducible exact Below.refl _ _) | (with_reducible assumption) | ((with_reducible refine Below.setCell ?_ ?_ _); rotate_left; · (first | exact Nat.le_refl _ | (simp; done) | (simp; omega) | omega)) | ((with_reducible refine Below.alloc ?_ ?_ _); rotate_left; · (first | exact Nat.le_refl _ | (simp; done) | (simp; omega) | omega)) | (with_reducible apply Below.drew) | (with_reducible apply below_drewN') | (refine Below.trans ?_ (Below.mono (by assumption) (by first | exact Nat.le_refl _ | (simp; done) | (simp; omega) | omega))) | exact Below.refl _ _ | assumption)) (by repeat (first | (with_reducible exact Below.refl _ _) | (with_reducible assumption) | ((with_reducible refine Below.setCell ?_ ?_ _); rotate_left; · (first | exact Nat.le_refl _ | (simp; done) | (simp; omega) | omega)) | ((with_reducible refine Below.alloc ?_ ?_ _); rotate_left; · (first | exact Nat.le_refl _ | (simp; done) | (simp; omega) | omega)) | (with_reducible apply Below.drew) | (with_reducible apply below_drewN') | (refine Below.trans ?_ (Below.mono (by assumption) (by first | exact Nat.le_refl _ | (simp; done) | (simp; omega) | omega))) | exact Below.refl _ _ | assumption))
  case ca23R11 => (first | (simp [Act.put]; done) | (simp [Act.put, *]; done))
  try dsimp only
  refine wpW_det (t' := ?ct24R11) 24 (by rfl) (by kernel_rfl) (NQ_free _) (by kernel_rfl) ?cw24R11 ?ch24R11 ?ca24R11 (Eq.refl _) ?cH24R11
  case cw24R11 => (go_simp; done)
  case ch24R11 =>
    intro ds w' hS K hK
    have hc := (bcell hS).1
    have hf := (bcell hS).2
    have hz := hS.size
    try simp at hz
    go_simp
    try go_bits
    first
      | exact hK _ hS (Gr.refl _)
      | (go_at_call 27; refine (lawPoint_any _ _ _).mono ?_; rintro e w1 ⟨rfl, hB1⟩; obtain ⟨hc1, hf1⟩ := bcell hB1; have hz1 := hB1.size; (try simp at hz1); exact hK _ (Below.trans hS (Below.mono hB1 (by first | exact Nat.le_refl _ | (simp; done) | (simp; omega) | omega))) hB1)
      | exact hK _ (by repeat (first | (with_reducible exact Below.refl _ _) | (with_reducible assumption) | ((with_reducible refine Below.setCell ?_ ?_ _); rotate_left; · (first | exact Nat.le_refl _ | (simp; done) | (simp; omega) | omega)) | ((with_reducible refine Below.alloc ?_ ?_ _); rotate_left; · (first | exact Nat.le_refl _ | (simp; done) | (simp; omega) | omega)) | (with_reducible apply Below.drew) | (with_reducible apply below_drewN') | (refine Below.trans ?_ (Below.mono (by assumption) (by first | exact Nat.le_refl _ | (simp; done) | (simp; omega) | omega))) | exact Below.refl _ _ | assumption)) (by repeat (first | (with_reducible exact Below.refl _ _) | (with_reducible assumption) | ((with_reducible refine Below.setCell ?_ ?_ _); rotate_left; · (first | exact Nat.le_refl _ | (simp; done) | (simp; omega) | omega)) | ((with_reducible refine Below.alloc ?_ ?_ _); rotate_left; · (first | exact Nat.le_refl _ | (simp; done) | (simp; omega) | omega)) | (with_reducible apply Below.drew) | (with_reducible apply below_drewN') | (refine Below.trans ?_ (Below.mono (by assumption) (by first | exact Nat.le_refl _ | (simp; done) | (simp; omega) | omega))) | exact Below.refl _ _ | assumption))
  case ca24R11 => (first | (simp [Act.put]; done) | (simp [Act.put, *]; done))
  try dsimp only
  refine wpW_det (t' := ?ct25R11) 25 (by rfl) (by kernel_rfl) (NQ_free _) (by kernel_rfl) ?cw25R11 ?ch25R11 ?ca25R11 (Eq.refl _) ?cH25R11
  case cw25R11 => (go_simp; done)
  case ch25R11 =>
    intro ds w' hS K hK
    have hc := (bcell hS).1
    have hf := (bcell hS).2
    have hz := hS.size
    try simp at hz
    go_simp
    try go_bits
    first
      | exact hK _ hS (Gr.refl _)
      | (go_at_call 27; refine (lawPoint_any _ _ _).mono ?_; rintro e w1 ⟨rfl, hB1⟩; obtain ⟨hc1, hf1⟩ := bcell hB1; have hz1 := hB1.size; (try simp at hz1); exact hK _ (Below.trans hS (Below.mono hB1 (by first | exact Nat.le_refl _ | (simp; done) | (simp; omega) | omega))) hB1)
      | exact hK _ (by repeat (first | (with_reducible exact Below.refl _ _) | (with_reducible assumption) | ((with_reducible refine Below.setCell ?_ ?_ _); rotate_left; · (first | exact Nat.le_refl _ | (simp; done) | (simp; omega) | omega)) | ((with_reducible refine Below.alloc ?_ ?_ _); rotate_left; · (first | exact Nat.le_refl _ | (simp; done) | (simp; omega) | omega)) | (with_reducible apply Below.drew) | (with_reducible apply below_drewN') | (refine Below.trans ?_ (Below.mono (by assumption) (by first | exact Nat.le_refl _ | (simp; done) | (simp; omega) | omega))) | exact Below.refl _ _ | assumption)) (by repeat (first | (with_reducible exact Below.refl _ _) | (with_reducible assumption) | ((with_reducible refine Below.setCell ?_ ?_ _); rotate_left; · (first | exact Nat.le_refl _ | (simp; done) | (simp; omega) | omega)) | ((with_reducible refine Below.alloc ?_ ?_ _); rotate_left; · (first | exact Nat.le_refl _ | (simp; done) | (simp; omega) | omega)) | (with_reducible apply Below.drew) | (with_reducible apply below_drewN') | (refine Below.trans ?_ (Below.mono (by assumption) (by first | exact Nat.le_refl _ | (simp; done) | (simp; omega) | omega))) | exact Below.refl _ _ | assumption))
  case ca25R11 => (first | (simp [Act.put]; done) | (simp [Act.put, *]; done))
  try dsimp only
  refine wpW_det (t' := ?ct26R11) 26 (by rfl) (by kernel_rfl) (NQ_free _) (by kernel_rfl) ?cw26R11 ?ch26R11 ?ca26R11 (Eq.refl _) ?cH26R11
  case cw26R11 => (go_simp; done)
  case ch26R11 =>
    intro ds w' hS K hK
    have hc := (bcell hS).1
    have hf := (bcell hS).2
    have hz := hS.size
    try simp at hz
    go_simp
    try go_bits
    first
      | exact hK _ hS (Gr.refl _)
      | (go_at_call 27; refine (lawPoint_any _ _ _).mono ?_; rintro e w1 ⟨rfl, hB1⟩; obtain ⟨hc1, hf1⟩ := bcell hB1; have hz1 := hB1.size; (try simp at hz1); exact hK _ (Below.trans hS (Below.mono hB1 (by first | exact Nat.le_refl _ | (simp; done) | (simp; omega) | omega))) hB1)
      | exact hK _ (by repeat (first | (with_reducible exact Below.refl _ _) | (with_reducible assumption) | ((with_reducible refine Below.setCell ?_ ?_ _); rotate_left; · (first | exact Nat.le_refl _ | (simp; done) | (simp; omega) | omega)) | ((with_reducible refine Below.alloc ?_ ?_ _); rotate_left; · (first | exact Nat.le_refl _ | (simp; done) | (simp; omega) | omega)) | (with_reducible apply Below.drew) | (with_reducible apply below_drewN') | (refine Below.trans ?_ (Below.mono (by assumption) (by first | exact Nat.le_refl _ | (simp; done) | (simp; omega) | omega))) | exact Below.refl _ _ | assumption)) (by repeat (first | (with_reducible exact Below.refl _ _) | (with_reducible assumption) | ((with_reducible refine Below.setCell ?_ ?_ _); rotate_left; · (first | exact Nat.le_refl _ | (simp; done) | (simp; omega) | omega)) | ((with_reducible refine Below.alloc ?_ ?_ _); rotate_left; · (first | exact Nat.le_refl _ | (simp; done) | (simp; omega) | omega)) | (with_reducible apply Below.drew) | (with_reducible apply below_drewN') | (refine Below.trans ?_ (Below.mono (by assumption) (by first | exact Nat.le_refl _ | (simp; done) | (simp; omega) | omega))) | exact Below.refl _ _ | assumption))
  case ca26R11 => (first | (simp [Act.put]; done) | (simp [Act.put, *]; done))
  try dsimp only
  refine wpW_det (t' := ?ct27R11) 27 (by rfl) (by kernel_rfl) (NQ_free _) (by kernel_rfl) ?cw27R11 ?ch27R11 ?ca27R11 (Eq.refl _) ?cH27R11
  case cw27R11 => (go_simp; done)
  case ch27R11 =>
    intro ds w' hS K hK
    have hc := (bcell hS).1
    have hf := (bcell hS).2
    have hz := hS.size
    try simp at hz
    go_simp
    try go_bits
    first
      | exact hK _ hS (Gr.refl _)
      | (go_at_call 27; refine (lawPoint_any _ _ _).mono ?_; rintro e w1 ⟨rfl, hB1⟩; obtain ⟨hc1, hf1⟩ := bcell hB1; have hz1 := hB1.size; (try simp at hz1); exact hK _ (Below.trans hS (Below.mono hB1 (by first | exact Nat.le_refl _ | (simp; done) | (simp; omega) | omega))) hB1)
      | exact hK _ (by repeat (first | (with_reducible exact Below.refl _ _) | (with_reducible assumption) | ((with_reducible refine Below.setCell ?_ ?_ _); rotate_left; · (first | exact Nat.le_refl _ | (simp; done) | (simp; omega) | omega)) | ((with_reducible refine Below.alloc ?_ ?_ _); rotate_left; · (first | exact Nat.le_refl _ | (simp; done) | (simp; omega) | omega)) | (with_reducible apply Below.drew) | (with_reducible apply below_drewN') | (refine Below.trans ?_ (Below.mono (by assumption) (by first | exact Nat.le_refl _ | (simp; done) | (simp; omega) | omega))) | exact Below.refl _ _ | assumption)) (by repeat (first | (with_reducible exact Below.refl _ _) | (with_reducible assumption) | ((with_reducible refine Below.setCell ?_ ?_ _); rotate_left; · (first | exact Nat.le_refl _ | (simp; done) | (simp; omega) | omega)) | ((with_reducible refine Below.alloc ?_ ?_ _); rotate_left; · (first | exact Nat.le_refl _ | (simp; done) | (simp; omega) | omega)) | (with_reducible apply Below.drew) | (with_reducible apply below_drewN') | (refine Below.trans ?_ (Below.mono (by assumption) (by first | exact Nat.le_refl _ | (simp; done) | (simp; omega) | omega))) | exact Below.refl _ _ | assumption))
  case ca27R11 => (first | (simp [Act.put]; done) | (simp [Act.put, *]; done))
  try dsimp only
  refine wpW_det (t' := ?ct28R11) 28 (by rfl) (by kernel_rfl) (NQ_free _) (by kernel_rfl) ?cw28R11 ?ch28R11 ?ca28R11 (Eq.refl _) ?cH28R11
  case cw28R11 => (go_simp; done)
  case ch28R11 =>
    intro ds w' hS K hK
    have hc := (bcell hS).1
    have hf := (bcell hS).2
    have hz := hS.size
    try simp at hz
    go_simp
    try go_bits
    first
      | exact hK _ hS (Gr.refl _)
      | (go_at_call 27; refine (lawPoint_any _ _ _).mono ?_; rintro e w1 ⟨rfl, hB1⟩; obtain ⟨hc1, hf1⟩ := bcell hB1; have hz1 := hB1.size; (try simp at hz1); exact hK _ (Below.trans hS (Below.mono hB1 (by first | exact Nat.le_refl _ | (simp; done) | (simp; omega) | omega))) hB1)
      | exact hK _ (by repeat (first | (with_reducible exact Below.refl _ _) | (with_reducible assumption) | ((with_reducible refine Below.setCell ?_ ?_ _); rotate_left; · (first | exact Nat.le_refl _ | (simp; done) | (simp; omega) | omega)) | ((with_reducible refine Below.alloc ?_ ?_ _); rotate_left; · (first | exact Nat.le_refl _ | (simp; done) | (simp; omega) | omega)) | (with_reducible apply Below.drew) | (with_reducible apply below_drewN') | (refine Below.trans ?_ (Below.mono (by assumption) (by first | exact Nat.le_refl _ | (simp; done) | (simp; omega) | omega))) | exact Below.refl _ _ | assumption)) (by repeat (first | (with_reducible exact Below.refl _ _) | (with_reducible assumption) | ((with_reducible refine Below.setCell ?_ ?_ _); rotate_left; · (first | exact Nat.le_refl _ | (simp; done) | (simp; omega) | omega)) | ((with_reducible refine Below.alloc ?_ ?_ _); rotate_left; · (first | exact Nat.le_refl _ | (simp; done) | (simp; omega) | omega)) | (with_reducible apply Below.drew) | (with_reducible apply below_drewN') | (refine Below.trans ?_ (Below.mono (by assumption) (by first | exact Nat.le_refl _ | (simp; done) | (simp; omega) | omega))) | exact Below.refl _ _ | assumption))
  case ca28R11 => (first | (simp [Act.put]; done) | (simp [Act.put, *]; done))
  try dsimp only
  refine wpW_det (t' := ?ct29R11) 29 (by rfl) (by kernel_rfl) (NQ_free _) (by kernel_rfl) ?cw29R11 ?ch29R11 ?ca29R11 (Eq.refl _) ?cH29R11
  case cw29R11 => (go_simp; done)
  case ch29R11 =>
    intro ds w' hS K hK
    have hc := (bcell hS).1
    have hf := (bcell hS).2
    have hz := hS.size
    try simp at hz
    go_simp
    try go_bits
    first
      | exact hK _ hS (Gr.refl _)
      | (go_at_call 27; refine (lawPoint_any _ _ _).mono ?_; rintro e w1 ⟨rfl, hB1⟩; obtain ⟨hc1, hf1⟩ := bcell hB1; have hz1 := hB1.size; (try simp at hz1); exact hK _ (Below.trans hS (Below.mono hB1 (by first | exact Nat.le_refl _ | (simp; done) | (simp; omega) | omega))) hB1)
      | exact hK _ (by repeat (first | (with_reducible exact Below.refl _ _) | (with_reducible assumption) | ((with_reducible refine Below.setCell ?_ ?_ _); rotate_left; · (first | exact Nat.le_refl _ | (simp; done) | (simp; omega) | omega)) | ((with_reducible refine Below.alloc ?_ ?_ _); rotate_left; · (first | exact Nat.le_refl _ | (simp; done) | (simp; omega) | omega)) | (with_reducible apply Below.drew) | (with_reducible apply below_drewN') | (refine Below.trans ?_ (Below.mono (by assumption) (by first | exact Nat.le_refl _ | (simp; done) | (simp; omega) | omega))) | exact Below.refl _ _ | assumption)) (by repeat (first | (with_reducible exact Below.refl _ _) | (with_reducible assumption) | ((with_reducible refine Below.setCell ?_ ?_ _); rotate_left; · (first | exact Nat.le_refl _ | (simp; done) | (simp; omega) | omega)) | ((with_reducible refine Below.alloc ?_ ?_ _); rotate_left; · (first | exact Nat.le_refl _ | (simp; done) | (simp; omega) | omega)) | (with_reducible apply Below.drew) | (with_reducible apply below_drewN') | (refine Below.trans ?_ (Below.mono (by assumption) (by first | exact Nat.le_refl _ | (simp; done) | (simp; omega) | omega))) | exact Below.refl _ _ | assumption))
  case ca29R11 => (first | (simp [Act.put]; done) | (simp [Act.put, *]; done))
  try dsimp only
  refine wpW_det (t' := ?ct30R11) 30 (by rfl) (by kernel_rfl) (NQ_free _) (by kernel_rfl) ?cw30R11 ?ch30R11 ?ca30R11 (Eq.refl _) ?cH30R11
  case cw30R11 => (go_simp; done)
  case ch30R11 =>
    intro ds w' hS K hK
    have hc := (bcell hS).1
    have hf := (bcell hS).2
    have hz := hS.size
    try simp at hz
    go_simp
    try go_bits
    first
      | exact hK _ hS (Gr.refl _)
      | (go_at_call 27; refine (lawPoint_any _ _ _).mono ?_; rintro e w1 ⟨rfl, hB1⟩; obtain ⟨hc1, hf1⟩ := bcell hB1; have hz1 := hB1.size; (try simp at hz1); exact hK _ (Below.trans hS (Below.mono hB1 (by first | exact Nat.le_refl _ | (simp; done) | (simp; omega) | omega))) hB1)
      | exact hK _ (by repeat (first | (with_reducible exact Below.refl _ _) | (with_reducible assumption) | ((with_reducible refine Below.setCell ?_ ?_ _); rotate_left; · (first | exact Nat.le_refl _ | (simp; done) | (simp; omega) | omega)) | ((with_reducible refine Below.alloc ?_ ?_ _); rotate_left; · (first | exact Nat.le_refl _ | (simp; done) | (simp; omega) | omega)) | (with_reducible apply Below.drew) | (with_reducible apply below_drewN') | (refine Below.trans ?_ (Below.mono (by assumption) (by first | exact Nat.le_refl _ | (simp; done) | (simp; omega) | omega))) | exact Below.refl _ _ | assumption)) (by repeat (first | (with_reducible exact Below.refl _ _) | (with_reducible assumption) | ((with_reducible refine Below.setCell ?_ ?_ _); rotate_left; · (first | exact Nat.le_refl _ | (simp; done) | (simp; omega) | omega)) | ((with_reducible refine Below.alloc ?_ ?_ _); rotate_left; · (first | exact Nat.le_refl _ | (simp; done) | (simp; omega) | omega)) | (with_reducible apply Below.drew) | (with_reducible apply below_drewN') | (refine Below.trans ?_ (Below.mono (by assumption) (by first | exact Nat.le_refl _ | (simp; done) | (simp; omega) | omega))) | exact Below.refl _ _ | assumption))
  case ca30R11 => (first | (simp [Act.put]; done) | (simp [Act.put, *]; done))
  try dsimp only
  refine wpW_det (t' := ?ct31R11) 31 (by rfl) (by kernel_rfl) (NQ_free _) (by kernel_rfl) ?cw31R11 ?ch31R11 ?ca31R11 (Eq.refl _) ?cH31R11
  case cw31R11 => (go_simp; done)
  case ch31R11 =>
    intro ds w' hS K hK
    have hc := (bcell hS).1
    have hf := (bcell hS).2
    have hz := hS.size
    try simp at hz
    go_simp
    try go_bits
    first
      | exact hK _ hS (Gr.refl _)
      | (go_at_call 27; refine (lawPoint_any _ _ _).mono ?_; rintro e w1 ⟨rfl, hB1⟩; obtain ⟨hc1, hf1⟩ := bcell hB1; have hz1 := hB1.size; (try simp at hz1); exact hK _ (Below.trans hS (Below.mono hB1 (by first | exact Nat.le_refl _ | (simp; done) | (simp; omega) | omega))) hB1)
      | exact hK _ (by repeat (first | (with_reducible exact Below.refl _ _) | (with_reducible assumption) | ((with_reducible refine Below.setCell ?_ ?_ _); rotate_left; · (first | exact Nat.le_refl _ | (simp; done) | (simp; omega) | omega)) | ((with_reducible refine Below.alloc ?_ ?_ _); rotate_left; · (first | exact Nat.le_refl _ | (simp; done) | (simp; omega) | omega)) | (with_reducible apply Below.drew) | (with_reducible apply below_drewN') | (refine Below.trans ?_ (Below.mono (by assumption) (by first | exact Nat.le_refl _ | (simp; done) | (simp; omega) | omega))) | exact Below.refl _ _ | assumption)) (by repeat (first | (with_reducible exact Below.refl _ _) | (with_reducible assumption) | ((with_reducible refine Below.setCell ?_ ?_ _); rotate_left; · (first | exact Nat.le_refl _ | (simp; done) | (simp; omega) | omega)) | ((with_reducible refine Below.alloc ?_ ?_ _); rotate_left; · (first | exact Nat.le_refl _ | (simp; done) | (simp; omega) | omega)) | (with_reducible apply Below.drew) | (with_reducible apply below_drewN') | (refine Below.trans ?_ (Below.mono (by assumption) (by first | exact Nat.le_refl _ | (simp; done) | (simp; omega) | omega))) | exact Below.refl _ _ | assumption))
  case ca31R11 => (first | (simp [Act.put]; done) | (simp [Act.put, *]; done))
  try dsimp only
  refine wpW_det (t' := ?ct32R11) 32 (by rfl) (by kernel_rfl) (NQ_free _) (by kernel_rfl) ?cw32R11 ?ch32R11 ?ca32R11 (Eq.refl _) ?cH32R11
  case cw32R11 => (go_simp; done)
  case ch32R11 =>
    intro ds w' hS K hK
    have hc := (bcell hS).1
    have hf := (bcell hS).2
    have hz := hS.size
    try simp at hz
    go_simp
    try go_bits
    first
      | exact hK _ hS (Gr.refl _)
      | (go_at_call 27; refine (lawPoint_any _ _ _).mono ?_; rintro e w1 ⟨rfl, hB1⟩; obtain ⟨hc1, hf1⟩ := bcell hB1; have hz1 := hB1.size; (try simp at hz1); exact hK _ (Below.trans hS (Below.mono hB1 (by first | exact Nat.le_refl _ | (simp; done) | (simp; omega) | omega))) hB1)
      | exact hK _ (by repeat (first | (with_reducible exact Below.refl _ _) | (with_reducible assumption) | ((with_reducible refine Below.setCell ?_ ?_ _); rotate_left; · (first | exact Nat.le_refl _ | (simp; done) | (simp; omega) | omega)) | ((with_reducible refine Below.alloc ?_ ?_ _); rotate_left; · (first | exact Nat.le_refl _ | (simp; done) | (simp; omega) | omega)) | (with_reducible apply Below.drew) | (with_reducible apply below_drewN') | (refine Below.trans ?_ (Below.mono (by assumption) (by first | exact Nat.le_refl _ | (simp; done) | (simp; omega) | omega))) | exact Below.refl _ _ | assumption)) (by repeat (first | (with_reducible exact Below.refl _ _) | (with_reducible assumption) | ((with_reducible refine Below.setCell ?_ ?_ _); rotate_left; · (first | exact Nat.le_refl _ | (simp; done) | (simp; omega) | omega)) | ((with_reducible refine Below.alloc ?_ ?_ _); rotate_left; · (first | exact Nat.le_refl _ | (simp; done) | (simp; omega) | omega)) | (with_reducible apply Below.drew) | (with_reducible apply below_drewN') | (refine Below.trans ?_ (Below.mono (by assumption) (by first | exact Nat.le_refl _ | (simp; done) | (simp; omega) | omega))) | exact Below.refl _ _ | assumption))
  case ca32R11 => (first | (simp [Act.put]; done) | (simp [Act.put, *]; done))
  try dsimp only
  refine wpW_det (t' := ?ct33R11) 33 (by rfl) (by kernel_rfl) (NQ_free _) (by kernel_rfl) ?cw33R11 ?ch33R11 ?ca33R11 (Eq.refl _) ?cH33R11
  case cw33R11 => (go_simp; done)
  case ch33R11 =>
    intro ds w' hS K hK
    have hc := (bcell hS).1
    have hf := (bcell hS).2
    have hz := hS.size
    try simp at hz
    go_simp
    try go_bits
    first
      | exact hK _ hS (Gr.refl _)
      | (go_at_call 27; refine (lawPoint_any _ _ _).mono ?_; rintro e w1 ⟨rfl, hB1⟩; obtain ⟨hc1, hf1⟩ := bcell hB1; have hz1 := hB1.size; (try simp at hz1); exact hK _ (Below.trans hS (Below.mono hB1 (by first | exact Nat.le_refl _ | (simp; done) | (simp; omega) | omega))) hB1)
      | exact hK _ (by repeat (first | (with_reducible exact Below.refl _ _) | (with_reducible assumption) | ((with_reducible refine Below.setCell ?_ ?_ _); rotate_left; · (first | exact Nat.le_refl _ | (simp; done) | (simp; omega) | omega)) | ((with_reducible refine Below.alloc ?_ ?_ _); rotate_left; · (first | exact Nat.le_refl _ | (simp; done) | (simp; omega) | omega)) | (with_reducible apply Below.drew) | (with_reducible apply below_drewN') | (refine Below.trans ?_ (Below.mono (by assumption) (by first | exact Nat.le_refl _ | (simp; done) | (simp; omega) | omega))) | exact Below.refl _ _ | assumption)) (by repeat (first | (with_reducible exact Below.refl _ _) | (with_reducible assumption) | ((with_reducible refine Below.setCell ?_ ?_ _); rotate_left; · (first | exact Nat.le_refl _ | (simp; done) | (simp; omega) | omega)) | ((with_reducible refine Below.alloc ?_ ?_ _); rotate_left; · (first | exact Nat.le_refl _ | (simp; done) | (simp; omega) | omega)) | (with_reducible apply Below.drew) | (with_reducible apply below_drewN') | (refine Below.trans ?_ (Below.mono (by assumption) (by first | exact Nat.le_refl _ | (simp; done) | (simp; omega) | omega))) | exact Below.refl _ _ | assumption))
  case ca33R11 => (first | (simp [Act.put]; done) | (simp [Act.put, *]; done))
  try dsimp only
  refine wpW_det (t' := ?ct34R11) 34 (by rfl) (by kernel_rfl) (NQ_free _) (by kernel_rfl) ?cw34R11 ?ch34R11 ?ca34R11 (Eq.refl _) ?cH34R11
  case cw34R11 => (go_simp; done)
  case ch34R11 =>
    intro ds w' hS K hK
    have hc := (bcell hS).1
    have hf := (bcell hS).2
    have hz := hS.size
    try simp at hz
    go_simp
    try go_bits
    first
      | exact hK _ hS (Gr.refl _)
      | (go_at_call 27; refine (lawPoint_any _ _ _).mono ?_; rintro e w1 ⟨rfl, hB1⟩; obtain ⟨hc1, hf1⟩ := bcell hB1; have hz1 := hB1.size; (try simp at hz1); exact hK _ (Below.trans hS (Below.mono hB1 (by first | exact Nat.le_refl _ | (simp; done) | (simp; omega) | omega))) hB1)
      | exact hK _ (by repeat (first | (with_reducible exact Below.refl _ _) | (with_reducible assumption) | ((with_reducible refine Below.setCell ?_ ?_ _); rotate_left; · (first | exact Nat.le_refl _ | (simp; done) | (simp; omega) | omega)) | ((with_reducible refine Below.alloc ?_ ?_ _); rotate_left; · (first | exact Nat.le_refl _ | (simp; done) | (simp; omega) | omega)) | (with_reducible apply Below.drew) | (with_reducible apply below_drewN') | (refine Below.trans ?_ (Below.mono (by assumption) (by first | exact Nat.le_refl _ | (simp; done) | (simp; omega) | omega))) | exact Below.refl _ _ | assumption)) (by repeat (first | (with_reducible exact Below.refl _ _) | (with_reducible assumption) | ((with_reducible refine Below.setCell ?_ ?_ _); rotate_left; · (first | exact Nat.le_refl _ | (simp; done) | (simp; omega) | omega)) | ((with_reducible refine Below.alloc ?_ ?_ _); rotate_left; · (first | exact Nat.le_refl _ | (simp; done) | (simp; omega) | omega)) | (with_reducible apply Below.drew) | (with_reducible apply below_drewN') | (refine Below.trans ?_ (Below.mono (by assumption) (by first | exact Nat.le_refl _ | (simp; done) | (simp; omega) | omega))) | exact Below.refl _ _ | assumption))
  case ca34R11 => (first | (simp [Act.put]; done) | (simp [Act.put, *]; done))
  try dsimp only
  refine wpW_det (t' := ?ct35R11) 35 (by rfl) (by kernel_rfl) (NQ_free _) (by kernel_rfl) ?cw35R11 ?ch35R11 ?ca35R11 (Eq.refl _) ?cH35R11
  case cw35R11 => (go_simp; done)
  case ch35R11 =>
    intro ds w' hS K hK
    have hc := (bcell hS).1
    have hf := (bcell hS).2
    have hz := hS.size
    try simp at hz
    go_simp
    try go_bits
    first
      | exact hK _ hS (Gr.refl _)
      | (go_at_call 27; refine (lawPoint_any _ _ _).mono ?_; rintro e w1 ⟨rfl, hB1⟩; obtain ⟨hc1, hf1⟩ := bcell hB1; have hz1 := hB1.size; (try simp at hz1); exact hK _ (Below.trans hS (Below.mono hB1 (by first | exact Nat.le_refl _ | (simp; done) | (simp; omega) | omega))) hB1)
      | exact hK _ (by repeat (first | (with_reducible exact Below.refl _ _) | (with_reducible assumption) | ((with_reducible refine Below.setCell ?_ ?_ _); rotate_left; · (first | exact Nat.le_refl _ | (simp; done) | (simp; omega) | omega)) | ((with_reducible refine Below.alloc ?_ ?_ _); rotate_left; · (first | exact Nat.le_refl _ | (simp; done) | (simp; omega) | omega)) | (with_reducible apply Below.drew) | (with_reducible apply below_drewN') | (refine Below.trans ?_ (Below.mono (by assumption) (by first | exact Nat.le_refl _ | (simp; done) | (simp; omega) | omega))) | exact Below.refl _ _ | assumption)) (by repeat (first | (with_reducible exact Below.refl _ _) | (with_reducible assumption) | ((with_reducible refine Below.setCell ?_ ?_ _); rotate_left; · (first | exact Nat.le_refl _ | (simp; done) | (simp; omega) | omega)) | ((with_reducible refine Below.alloc ?_ ?_ _); rotate_left; · (first | exact Nat.le_refl _ | (simp; done) | (simp; omega) | omega)) | (with_reducible apply Below.drew) | (with_reducible apply below_drewN') | (refine Below.trans ?_ (Below.mono (by assumption) (by first | exact Nat.le_refl _ | (simp; done) | (simp; omega) | omega))) | exact Below.refl _ _ | assumption))
  case ca35R11 => (first | (simp [Act.put]; done) | (simp [Act.put, *]; done))
  try dsimp only
  refine wpW_det (t' := ?ct36R11) 36 (by rfl) (by kernel_rfl) (NQ_free _) (by kernel_rfl) ?cw36R11 ?ch36R11 ?ca36R11 (Eq.refl _) ?cH36R11
  case cw36R11 => (go_simp; done)
  case ch36R11 =>
    intro ds w' hS K hK
    have hc := (bcell hS).1
    have hf := (bcell hS).2
    have hz := hS.size
    try simp at hz
    go_simp
    try go_bits
    first
      | exact hK _ hS (Gr.refl _)
      | (go_at_call 27; refine (lawPoint_any _ _ _).mono ?_; rintro e w1 ⟨rfl, hB1⟩; obtain ⟨hc1, hf1⟩ := bcell hB1; have hz1 := hB1.size; (try simp at hz1); exact hK _ (Below.trans hS (Below.mono hB1 (by first | exact Nat.le_refl _ | (simp; done) | (simp; omega) | omega))) hB1)
      | exact hK _ (by repeat (first | (with_reducible exact Below.refl _ _) | (with_reducible assumption) | ((with_reducible refine Below.setCell ?_ ?_ _); rotate_left; · (first | exact Nat.le_refl _ | (simp; done) | (simp; omega) | omega)) | ((with_reducible refine Below.alloc ?_ ?_ _); rotate_left; · (first | exact Nat.le_refl _ | (simp; done) | (simp; omega) | omega)) | (with_reducible apply Below.drew) | (with_reducible apply below_drewN') | (refine Below.trans ?_ (Below.mono (by assumption) (by first | exact Nat.le_refl _ | (simp; done) | (simp; omega) | omega))) | exact Below.refl _ _ | assumption)) (by repeat (first | (with_reducible exact Below.refl _ _) | (with_reducible assumption) | ((with_reducible refine Below.setCell ?_ ?_ _); rotate_left; · (first | exact Nat.le_refl _ | (simp; done) | (simp; omega) | omega)) | ((with_reducible refine Below.alloc ?_ ?_ _); rotate_left; · (first | exact Nat.le_refl _ | (simp; done) | (simp; omega) | omega)) | (with_reducible apply Below.drew) | (with_reducible apply below_drewN') | (refine Below.trans ?_ (Below.mono (by assumption) (by first | exact Nat.le_refl _ | (simp; done) | (simp; omega) | omega))) | exact Below.refl _ _ | assumption))
  case ca36R11 => (first | (simp [Act.put]; done) | (simp [Act.put, *]; done))
  try dsimp only
  refine wpW_det (t' := ?ct37R11) 37 (by rfl) (by kernel_rfl) (NQ_free _) (by kernel_rfl) ?cw37R11 ?ch37R11 ?ca37R11 (Eq.refl _) ?cH37R11
  case cw37R11 => (go_simp; done)
  case ch37R11 =>
    intro ds w' hS K hK
    have hc := (bcell hS).1
    have hf := (bcell hS).2
    have hz := hS.size
    try simp at hz
    go_simp
    try go_bits
    first
      | exact hK _ hS (Gr.refl _)
      | (go_at_call 27; refine (lawPoint_any _ _ _).mono ?_; rintro e w1 ⟨rfl, hB1⟩; obtain ⟨hc1, hf1⟩ := bcell hB1; have hz1 := hB1.size; (try simp at hz1); exact hK _ (Below.trans hS (Below.mono hB1 (by first | exact Nat.le_refl _ | (simp; done) | (simp; omega) | omega))) hB1)
      | exact hK _ (by repeat (first | (with_reducible exact Below.refl _ _) | (with_reducible assumption) | ((with_reducible refine Below.setCell ?_ ?_ _); rotate_left; · (first | exact Nat.le_refl _ | (simp; done) | (simp; omega) | omega)) | ((with_reducible refine Below.alloc ?_ ?_ _); rotate_left; · (first | exact Nat.le_refl _ | (simp; done) | (simp; omega) | omega)) | (with_reducible apply Below.drew) | (with_reducible apply below_drewN') | (refine Below.trans ?_ (Below.mono (by assumption) (by first | exact Nat.le_refl _ | (simp; done) | (simp; omega) | omega))) | exact Below.refl _ _ | assumption)) (by repeat (first | (with_reducible exact Below.refl _ _) | (with_reducible assumption) | ((with_reducible refine Below.setCell ?_ ?_ _); rotate_left; · (first | exact Nat.le_refl _ | (simp; done) | (simp; omega) | omega)) | ((with_reducible refine Below.alloc ?_ ?_ _); rotate_left; · (first | exact Nat.le_refl _ | (simp; done) | (simp; omega) | omega)) | (with_reducible apply Below.drew) | (with_reducible apply below_drewN') | (refine Below.trans ?_ (Below.mono (by assumption) (by first | exact Nat.le_refl _ | (simp; done) | (simp; omega) | omega))) | exact Below.refl _ _ | assumption))
  case ca37R11 => (first | (simp [Act.put]; done) | (simp [Act.put, *]; done))
  try dsimp only
  refine wpW_det (t' := ?ct38R11) 38 (by rfl) (by kernel_rfl) (NQ_free _) (by kernel_rfl) ?cw38R11 ?ch38R11 ?ca38R11 (Eq.refl _) ?cH38R11
  case cw38R11 => (go_simp; done)
  case ch38R11 =>
    intro ds w' hS K hK
    have hc := (bcell hS).1
    have hf := (bcell hS).2
    have hz := hS.size
    try simp at hz
    go_simp
    try go_bits
    first
      | exact hK _ hS (Gr.refl _)
      | (go_at_call 27; refine (lawPoint_any _ _ _).mono ?_; rintro e w1 ⟨rfl, hB1⟩; obtain ⟨hc1, hf1⟩ := bcell hB1; have hz1 := hB1.size; (try simp at hz1); exact hK _ (Below.trans hS (Below.mono hB1 (by first | exact Nat.le_refl _ | (simp; done) | (simp; omega) | omega))) hB1)
      | exact hK _ (by repeat (first | (with_reducible exact Below.refl _ _) | (with_reducible assumption) | ((with_reducible refine Below.setCell ?_ ?_ _); rotate_left; · (first | exact Nat.le_refl _ | (simp; done) | (simp; omega) | omega)) | ((with_reducible refine Below.alloc ?_ ?_ _); rotate_left; · (first | exact Nat.le_refl _ | (simp; done) | (simp; omega) | omega)) | (with_reducible apply Below.drew) | (with_reducible apply below_drewN') | (refine Below.trans ?_ (Below.mono (by assumption) (by first | exact Nat.le_refl _ | (simp; done) | (simp; omega) | omega))) | exact Below.refl _ _ | assumption)) (by repeat (first | (with_reducible exact Below.refl _ _) | (with_reducible assumption) | ((with_reducible refine Below.setCell ?_ ?_ _); rotate_left; · (first | exact Nat.le_refl _ | (simp; done) | (simp; omega) | omega)) | ((with_reducible refine Below.alloc ?_ ?_ _); rotate_left; · (first | exact Nat.le_refl _ | (simp; done) | (simp; omega) | omega)) | (with_reducible apply Below.drew) | (with_reducible apply below_drewN') | (refine Below.trans ?_ (Below.mono (by assumption) (by first | exact Nat.le_refl _ | (simp; done) | (simp; omega) | omega))) | exact Below.refl _ _ | assumption))
  case ca38R11 => (first | (simp [Act.put]; done) | (simp [Act.put, *]; done))
  try dsimp only
  refine wpW_det (t' := ?ct39R11) 39 (by rfl) (by kernel_rfl) (NQ_free _) (by kernel_rfl) ?cw39R11 ?ch39R11 ?ca39R11 (Eq.refl _) ?cH39R11
  case cw39R11 => (go_simp; done)
  case ch39R11 =>
    intro ds w' hS K hK
    have hc := (bcell hS).1
    have hf := (bcell hS).2
    have hz := hS.size
    try simp at hz
    go_simp
    try go_bits
    first
      | exact hK _ hS (Gr.refl _)
      | (go_at_call 27; refine (lawPoint_any _ _ _).mono ?_; rintro e w1 ⟨rfl, hB1⟩; obtain ⟨hc1, hf1⟩ := bcell hB1; have hz1 := hB1.size; (try simp at hz1); exact hK _ (Below.trans hS (Below.mono hB1 (by first | exact Nat.le_refl _ | (simp; done) | (simp; omega) | omega))) hB1)
      | exact hK _ (by repeat (first | (with_reducible exact Below.refl _ _) | (with_reducible assumption) | ((with_reducible refine Below.setCell ?_ ?_ _); rotate_left; · (first | exact Nat.le_refl _ | (simp; done) | (simp; omega) | omega)) | ((with_reducible refine Below.alloc ?_ ?_ _); rotate_left; · (first | exact Nat.le_refl _ | (simp; done) | (simp; omega) | omega)) | (with_reducible apply Below.drew) | (with_reducible apply below_drewN') | (refine Below.trans ?_ (Below.mono (by assumption) (by first | exact Nat.le_refl _ | (simp; done) | (simp; omega) | omega))) | exact Below.refl _ _ | assumption)) (by repeat (first | (with_reducible exact Below.refl _ _) | (with_reducible assumption) | ((with_reducible refine Below.setCell ?_ ?_ _); rotate_left; · (first | exact Nat.le_refl _ | (simp; done) | (simp; omega) | omega)) | ((with_reducible refine Below.alloc ?_ ?_ _); rotate_left; · (first | exact Nat.le_refl _ | (simp; done) | (simp; omega) | omega)) | (with_reducible apply Below.drew) | (with_reducible apply below_drewN') | (refine Below.trans ?_ (Below.mono (by assumption) (by first | exact Nat.le_refl _ | (simp; done) | (simp; omega) | omega))) | exact Below.refl _ _ | assumption))
  case ca39R11 => (first | (simp [Act.put]; done) | (simp [Act.put, *]; done))
  try dsimp only
  clear p0 p1 p2 p3 q0 q1 q2 q3 r0 r1 r2 r3 b1 b3 b5
  refine wpW_branch [40] (by kernel_rfl) (by simp) ?_
  intro wA hg_wA hS_wA
  refine each_cons ?_ each_nil
  refine wpOp_go (by rfl) (Eq.refl _) (by go_simp; done) ?_
  intro K hK
  go_simp
  try simp only [Act.put]
  have bA := Blk.new wA 79 #[.int .i64 0, .int .i64 11, .int .i64 29, .int .i64 29, .int .i64 47, .int .i64 100]
  refine hK _ _ (Below.alloc hS_wA (Below.size hS_wA) _) ?_
  clear hK K
  refine wpW_branch [41] (by kernel_rfl) (by simp) ?_
  intro wB hg_wB hS_wB
  refine each_cons ?_ each_nil
  refine wpOp_go (by rfl) (Eq.refl _) (by go_simp; done) ?_
  intro K hK
  go_simp
  try simp only [Act.put]
  have bB := Blk.gr bA hg_wB
  have lB := bB.lt
  have hWA := Below.size hS_wA
  have hRA : Row wB (wA.heap.size + 1) 2 (some ⟨wA.heap.size, 0, none⟩) 3 (rngsC [(0, 11), (29, 29), (47, 100)]) := ⟨rfl, fun _ => ⟨wA.heap.size, 0, rfl, by omega, fun j u hu => by rw [Nat.zero_add, bB.cell j, List.getElem?_toArray]; exact hu⟩⟩
  have hR7B := (hR7.below hS_wB (Nat.le_of_lt l10)).more (B' := wA.heap.size + 1) (by omega)
  have hd : decide ([((0 : Int), (11 : Int)), (29, 29), (47, 100)] = [(0, 11), (29, 29), (47, 100)]) = true := by decide
  refine (ranges_any [(0, 11), (29, 29), (47, 100)] [(0, 11), (29, 29), (47, 100)] A7 (some ⟨wA.heap.size, 0, none⟩) c7 3 (wA.heap.size + 1) wB (by simp) (by simp) hR7B hRA lB).mono ?_
  rw [hd]
  rintro e w12 ⟨rfl, hB12⟩
  have hS12 : Gr W w12 := Below.trans hS_wB (hB12.mono (Below.size hS_wB))
  refine hK _ _ hS12 ?_
  clear hK K hB12 hRA hR7B hR7 bA bB lB hg_wA hS_wA hg_wB hS_wB hWA
  refine wpW_det (t' := ?ct42R12) 42 (by rfl) (by kernel_rfl) (NQ_free _) (by kernel_rfl) ?cw42R12 ?ch42R12 ?ca42R12 (Eq.refl _) ?cH42R12
  case cw42R12 => (go_simp; done)
  case ch42R12 =>
    intro ds w' hS K hK
    have hc := (bcell hS).1
    have hf := (bcell hS).2
    have hz := hS.size
    try simp at hz
    go_simp
    try go_bits
    first
      | exact hK _ hS (Gr.refl _)
      | exact hK _ (by repeat (first | (with_reducible exact Below.refl _ _) | (with_reducible assumption) | ((with_reducible refine Below.setCell ?_ ?_ _); rotate_left; · (first | exact Nat.le_refl _ | (simp; done) | (simp; omega) | omega)) | ((with_reducible refine Below.alloc ?_ ?_ _); rotate_left; · (first | exact Nat.le_refl _ | (simp; done) | (simp; omega) | omega)) | (with_reducible apply Below.drew) | (with_reducible apply below_drewN') | (refine Below.trans ?_ (Below.mono (by assumption) (by first | exact Nat.le_refl _ | (simp; done) | (simp; omega) | omega))) | exact Below.refl _ _ | assumption)) (by repeat (first | (with_reducible exact Below.refl _ _) | (with_reducible assumption) | ((with_reducible refine Below.setCell ?_ ?_ _); rotate_left; · (first | exact Nat.le_refl _ | (simp; done) | (simp; omega) | omega)) | ((with_reducible refine Below.alloc ?_ ?_ _); rotate_left; · (first | exact Nat.le_refl _ | (simp; done) | (simp; omega) | omega)) | (with_reducible apply Below.drew) | (with_reducible apply below_drewN') | (refine Below.trans ?_ (Below.mono (by assumption) (by first | exact Nat.le_refl _ | (simp; done) | (simp; omega) | omega))) | exact Below.refl _ _ | assumption))
  case ca42R12 => (first | (simp [Act.put]; done) | (simp [Act.put, *]; done))
  try dsimp only
  refine wpW_det (t' := ?ct43R12) 43 (by rfl) (by kernel_rfl) (NQ_free _) (by kernel_rfl) ?cw43R12 ?ch43R12 ?ca43R12 (Eq.refl _) ?cH43R12
  case cw43R12 => (go_simp; done)
  case ch43R12 =>
    intro ds w' hS K hK
    have hc := (bcell hS).1
    have hf := (bcell hS).2
    have hz := hS.size
    try simp at hz
    go_simp
    try go_bits
    first
      | exact hK _ hS (Gr.refl _)
      | exact hK _ (by repeat (first | (with_reducible exact Below.refl _ _) | (with_reducible assumption) | ((with_reducible refine Below.setCell ?_ ?_ _); rotate_left; · (first | exact Nat.le_refl _ | (simp; done) | (simp; omega) | omega)) | ((with_reducible refine Below.alloc ?_ ?_ _); rotate_left; · (first | exact Nat.le_refl _ | (simp; done) | (simp; omega) | omega)) | (with_reducible apply Below.drew) | (with_reducible apply below_drewN') | (refine Below.trans ?_ (Below.mono (by assumption) (by first | exact Nat.le_refl _ | (simp; done) | (simp; omega) | omega))) | exact Below.refl _ _ | assumption)) (by repeat (first | (with_reducible exact Below.refl _ _) | (with_reducible assumption) | ((with_reducible refine Below.setCell ?_ ?_ _); rotate_left; · (first | exact Nat.le_refl _ | (simp; done) | (simp; omega) | omega)) | ((with_reducible refine Below.alloc ?_ ?_ _); rotate_left; · (first | exact Nat.le_refl _ | (simp; done) | (simp; omega) | omega)) | (with_reducible apply Below.drew) | (with_reducible apply below_drewN') | (refine Below.trans ?_ (Below.mono (by assumption) (by first | exact Nat.le_refl _ | (simp; done) | (simp; omega) | omega))) | exact Below.refl _ _ | assumption))
  case ca43R12 => (first | (simp [Act.put]; done) | (simp [Act.put, *]; done))
  try dsimp only
  refine wpW_det (t' := ?ct44R12) 44 (by rfl) (by kernel_rfl) (NQ_free _) (by kernel_rfl) ?cw44R12 ?ch44R12 ?ca44R12 (Eq.refl _) ?cH44R12
  case cw44R12 => (go_simp; done)
  case ch44R12 =>
    intro ds w' hS K hK
    have hc := (bcell hS).1
    have hf := (bcell hS).2
    have hz := hS.size
    try simp at hz
    go_simp
    try go_bits
    first
      | exact hK _ hS (Gr.refl _)
      | exact hK _ (by repeat (first | (with_reducible exact Below.refl _ _) | (with_reducible assumption) | ((with_reducible refine Below.setCell ?_ ?_ _); rotate_left; · (first | exact Nat.le_refl _ | (simp; done) | (simp; omega) | omega)) | ((with_reducible refine Below.alloc ?_ ?_ _); rotate_left; · (first | exact Nat.le_refl _ | (simp; done) | (simp; omega) | omega)) | (with_reducible apply Below.drew) | (with_reducible apply below_drewN') | (refine Below.trans ?_ (Below.mono (by assumption) (by first | exact Nat.le_refl _ | (simp; done) | (simp; omega) | omega))) | exact Below.refl _ _ | assumption)) (by repeat (first | (with_reducible exact Below.refl _ _) | (with_reducible assumption) | ((with_reducible refine Below.setCell ?_ ?_ _); rotate_left; · (first | exact Nat.le_refl _ | (simp; done) | (simp; omega) | omega)) | ((with_reducible refine Below.alloc ?_ ?_ _); rotate_left; · (first | exact Nat.le_refl _ | (simp; done) | (simp; omega) | omega)) | (with_reducible apply Below.drew) | (with_reducible apply below_drewN') | (refine Below.trans ?_ (Below.mono (by assumption) (by first | exact Nat.le_refl _ | (simp; done) | (simp; omega) | omega))) | exact Below.refl _ _ | assumption))
  case ca44R12 => (first | (simp [Act.put]; done) | (simp [Act.put, *]; done))
  try dsimp only
  refine wpW_det (t' := ?ct45R12) 45 (by rfl) (by kernel_rfl) (NQ_free _) (by kernel_rfl) ?cw45R12 ?ch45R12 ?ca45R12 (Eq.refl _) ?cH45R12
  case cw45R12 => (go_simp; done)
  case ch45R12 =>
    intro ds w' hS K hK
    have hc := (bcell hS).1
    have hf := (bcell hS).2
    have hz := hS.size
    try simp at hz
    go_simp
    try go_bits
    first
      | exact hK _ hS (Gr.refl _)
      | exact hK _ (by repeat (first | (with_reducible exact Below.refl _ _) | (with_reducible assumption) | ((with_reducible refine Below.setCell ?_ ?_ _); rotate_left; · (first | exact Nat.le_refl _ | (simp; done) | (simp; omega) | omega)) | ((with_reducible refine Below.alloc ?_ ?_ _); rotate_left; · (first | exact Nat.le_refl _ | (simp; done) | (simp; omega) | omega)) | (with_reducible apply Below.drew) | (with_reducible apply below_drewN') | (refine Below.trans ?_ (Below.mono (by assumption) (by first | exact Nat.le_refl _ | (simp; done) | (simp; omega) | omega))) | exact Below.refl _ _ | assumption)) (by repeat (first | (with_reducible exact Below.refl _ _) | (with_reducible assumption) | ((with_reducible refine Below.setCell ?_ ?_ _); rotate_left; · (first | exact Nat.le_refl _ | (simp; done) | (simp; omega) | omega)) | ((with_reducible refine Below.alloc ?_ ?_ _); rotate_left; · (first | exact Nat.le_refl _ | (simp; done) | (simp; omega) | omega)) | (with_reducible apply Below.drew) | (with_reducible apply below_drewN') | (refine Below.trans ?_ (Below.mono (by assumption) (by first | exact Nat.le_refl _ | (simp; done) | (simp; omega) | omega))) | exact Below.refl _ _ | assumption))
  case ca45R12 => (first | (simp [Act.put]; done) | (simp [Act.put, *]; done))
  try dsimp only
  refine wpW_det (t' := ?ct46R12) 46 (by rfl) (by kernel_rfl) (NQ_free _) (by kernel_rfl) ?cw46R12 ?ch46R12 ?ca46R12 (Eq.refl _) ?cH46R12
  case cw46R12 => (go_simp; done)
  case ch46R12 =>
    intro ds w' hS K hK
    have hc := (bcell hS).1
    have hf := (bcell hS).2
    have hz := hS.size
    try simp at hz
    go_simp
    try go_bits
    first
      | exact hK _ hS (Gr.refl _)
      | exact hK _ (by repeat (first | (with_reducible exact Below.refl _ _) | (with_reducible assumption) | ((with_reducible refine Below.setCell ?_ ?_ _); rotate_left; · (first | exact Nat.le_refl _ | (simp; done) | (simp; omega) | omega)) | ((with_reducible refine Below.alloc ?_ ?_ _); rotate_left; · (first | exact Nat.le_refl _ | (simp; done) | (simp; omega) | omega)) | (with_reducible apply Below.drew) | (with_reducible apply below_drewN') | (refine Below.trans ?_ (Below.mono (by assumption) (by first | exact Nat.le_refl _ | (simp; done) | (simp; omega) | omega))) | exact Below.refl _ _ | assumption)) (by repeat (first | (with_reducible exact Below.refl _ _) | (with_reducible assumption) | ((with_reducible refine Below.setCell ?_ ?_ _); rotate_left; · (first | exact Nat.le_refl _ | (simp; done) | (simp; omega) | omega)) | ((with_reducible refine Below.alloc ?_ ?_ _); rotate_left; · (first | exact Nat.le_refl _ | (simp; done) | (simp; omega) | omega)) | (with_reducible apply Below.drew) | (with_reducible apply below_drewN') | (refine Below.trans ?_ (Below.mono (by assumption) (by first | exact Nat.le_refl _ | (simp; done) | (simp; omega) | omega))) | exact Below.refl _ _ | assumption))
  case ca46R12 => (first | (simp [Act.put]; done) | (simp [Act.put, *]; done))
  try dsimp only
  refine wpW_det (t' := ?ct47R12) 47 (by rfl) (by kernel_rfl) (NQ_free _) (by kernel_rfl) ?cw47R12 ?ch47R12 ?ca47R12 (Eq.refl _) ?cH47R12
  case cw47R12 => (go_simp; done)
  case ch47R12 =>
    intro ds w' hS K hK
    have hc := (bcell hS).1
    have hf := (bcell hS).2
    have hz := hS.size
    try simp at hz
    go_simp
    try go_bits
    first
      | exact hK _ hS (Gr.refl _)
      | exact hK _ (by repeat (first | (with_reducible exact Below.refl _ _) | (with_reducible assumption) | ((with_reducible refine Below.setCell ?_ ?_ _); rotate_left; · (first | exact Nat.le_refl _ | (simp; done) | (simp; omega) | omega)) | ((with_reducible refine Below.alloc ?_ ?_ _); rotate_left; · (first | exact Nat.le_refl _ | (simp; done) | (simp; omega) | omega)) | (with_reducible apply Below.drew) | (with_reducible apply below_drewN') | (refine Below.trans ?_ (Below.mono (by assumption) (by first | exact Nat.le_refl _ | (simp; done) | (simp; omega) | omega))) | exact Below.refl _ _ | assumption)) (by repeat (first | (with_reducible exact Below.refl _ _) | (with_reducible assumption) | ((with_reducible refine Below.setCell ?_ ?_ _); rotate_left; · (first | exact Nat.le_refl _ | (simp; done) | (simp; omega) | omega)) | ((with_reducible refine Below.alloc ?_ ?_ _); rotate_left; · (first | exact Nat.le_refl _ | (simp; done) | (simp; omega) | omega)) | (with_reducible apply Below.drew) | (with_reducible apply below_drewN') | (refine Below.trans ?_ (Below.mono (by assumption) (by first | exact Nat.le_refl _ | (simp; done) | (simp; omega) | omega))) | exact Below.refl _ _ | assumption))
  case ca47R12 => (first | (simp [Act.put]; done) | (simp [Act.put, *]; done))
  try dsimp only
  refine wpW_det (t' := ?ct48R12) 48 (by rfl) (by kernel_rfl) (NQ_free _) (by kernel_rfl) ?cw48R12 ?ch48R12 ?ca48R12 (Eq.refl _) ?cH48R12
  case cw48R12 => (go_simp; done)
  case ch48R12 =>
    intro ds w' hS K hK
    have hc := (bcell hS).1
    have hf := (bcell hS).2
    have hz := hS.size
    try simp at hz
    go_simp
    try go_bits
    first
      | exact hK _ hS (Gr.refl _)
      | exact hK _ (by repeat (first | (with_reducible exact Below.refl _ _) | (with_reducible assumption) | ((with_reducible refine Below.setCell ?_ ?_ _); rotate_left; · (first | exact Nat.le_refl _ | (simp; done) | (simp; omega) | omega)) | ((with_reducible refine Below.alloc ?_ ?_ _); rotate_left; · (first | exact Nat.le_refl _ | (simp; done) | (simp; omega) | omega)) | (with_reducible apply Below.drew) | (with_reducible apply below_drewN') | (refine Below.trans ?_ (Below.mono (by assumption) (by first | exact Nat.le_refl _ | (simp; done) | (simp; omega) | omega))) | exact Below.refl _ _ | assumption)) (by repeat (first | (with_reducible exact Below.refl _ _) | (with_reducible assumption) | ((with_reducible refine Below.setCell ?_ ?_ _); rotate_left; · (first | exact Nat.le_refl _ | (simp; done) | (simp; omega) | omega)) | ((with_reducible refine Below.alloc ?_ ?_ _); rotate_left; · (first | exact Nat.le_refl _ | (simp; done) | (simp; omega) | omega)) | (with_reducible apply Below.drew) | (with_reducible apply below_drewN') | (refine Below.trans ?_ (Below.mono (by assumption) (by first | exact Nat.le_refl _ | (simp; done) | (simp; omega) | omega))) | exact Below.refl _ _ | assumption))
  case ca48R12 => (first | (simp [Act.put]; done) | (simp [Act.put, *]; done))
  try dsimp only
  refine wpW_det (t' := ?ct49R12) 49 (by rfl) (by kernel_rfl) (NQ_free _) (by kernel_rfl) ?cw49R12 ?ch49R12 ?ca49R12 (Eq.refl _) ?cH49R12
  case cw49R12 => (go_simp; done)
  case ch49R12 =>
    intro ds w' hS K hK
    have hc := (bcell hS).1
    have hf := (bcell hS).2
    have hz := hS.size
    try simp at hz
    go_simp
    try go_bits
    first
      | exact hK _ hS (Gr.refl _)
      | exact hK _ (by repeat (first | (with_reducible exact Below.refl _ _) | (with_reducible assumption) | ((with_reducible refine Below.setCell ?_ ?_ _); rotate_left; · (first | exact Nat.le_refl _ | (simp; done) | (simp; omega) | omega)) | ((with_reducible refine Below.alloc ?_ ?_ _); rotate_left; · (first | exact Nat.le_refl _ | (simp; done) | (simp; omega) | omega)) | (with_reducible apply Below.drew) | (with_reducible apply below_drewN') | (refine Below.trans ?_ (Below.mono (by assumption) (by first | exact Nat.le_refl _ | (simp; done) | (simp; omega) | omega))) | exact Below.refl _ _ | assumption)) (by repeat (first | (with_reducible exact Below.refl _ _) | (with_reducible assumption) | ((with_reducible refine Below.setCell ?_ ?_ _); rotate_left; · (first | exact Nat.le_refl _ | (simp; done) | (simp; omega) | omega)) | ((with_reducible refine Below.alloc ?_ ?_ _); rotate_left; · (first | exact Nat.le_refl _ | (simp; done) | (simp; omega) | omega)) | (with_reducible apply Below.drew) | (with_reducible apply below_drewN') | (refine Below.trans ?_ (Below.mono (by assumption) (by first | exact Nat.le_refl _ | (simp; done) | (simp; omega) | omega))) | exact Below.refl _ _ | assumption))
  case ca49R12 => (first | (simp [Act.put]; done) | (simp [Act.put, *]; done))
  try dsimp only
  refine wpW_det (t' := ?ct50R12) 50 (by rfl) (by kernel_rfl) (NQ_free _) (by kernel_rfl) ?cw50R12 ?ch50R12 ?ca50R12 (Eq.refl _) ?cH50R12
  case cw50R12 => (go_simp; done)
  case ch50R12 =>
    intro ds w' hS K hK
    have hc := (bcell hS).1
    have hf := (bcell hS).2
    have hz := hS.size
    try simp at hz
    go_simp
    try go_bits
    first
      | exact hK _ hS (Gr.refl _)
      | exact hK _ (by repeat (first | (with_reducible exact Below.refl _ _) | (with_reducible assumption) | ((with_reducible refine Below.setCell ?_ ?_ _); rotate_left; · (first | exact Nat.le_refl _ | (simp; done) | (simp; omega) | omega)) | ((with_reducible refine Below.alloc ?_ ?_ _); rotate_left; · (first | exact Nat.le_refl _ | (simp; done) | (simp; omega) | omega)) | (with_reducible apply Below.drew) | (with_reducible apply below_drewN') | (refine Below.trans ?_ (Below.mono (by assumption) (by first | exact Nat.le_refl _ | (simp; done) | (simp; omega) | omega))) | exact Below.refl _ _ | assumption)) (by repeat (first | (with_reducible exact Below.refl _ _) | (with_reducible assumption) | ((with_reducible refine Below.setCell ?_ ?_ _); rotate_left; · (first | exact Nat.le_refl _ | (simp; done) | (simp; omega) | omega)) | ((with_reducible refine Below.alloc ?_ ?_ _); rotate_left; · (first | exact Nat.le_refl _ | (simp; done) | (simp; omega) | omega)) | (with_reducible apply Below.drew) | (with_reducible apply below_drewN') | (refine Below.trans ?_ (Below.mono (by assumption) (by first | exact Nat.le_refl _ | (simp; done) | (simp; omega) | omega))) | exact Below.refl _ _ | assumption))
  case ca50R12 => (first | (simp [Act.put]; done) | (simp [Act.put, *]; done))
  try dsimp only
  refine wpW_det (t' := ?ct51R12) 51 (by rfl) (by kernel_rfl) (NQ_free _) (by kernel_rfl) ?cw51R12 ?ch51R12 ?ca51R12 (Eq.refl _) ?cH51R12
  case cw51R12 => (go_simp; done)
  case ch51R12 =>
    intro ds w' hS K hK
    have hc := (bcell hS).1
    have hf := (bcell hS).2
    have hz := hS.size
    try simp at hz
    go_simp
    try go_bits
    first
      | exact hK _ hS (Gr.refl _)
      | exact hK _ (by repeat (first | (with_reducible exact Below.refl _ _) | (with_reducible assumption) | ((with_reducible refine Below.setCell ?_ ?_ _); rotate_left; · (first | exact Nat.le_refl _ | (simp; done) | (simp; omega) | omega)) | ((with_reducible refine Below.alloc ?_ ?_ _); rotate_left; · (first | exact Nat.le_refl _ | (simp; done) | (simp; omega) | omega)) | (with_reducible apply Below.drew) | (with_reducible apply below_drewN') | (refine Below.trans ?_ (Below.mono (by assumption) (by first | exact Nat.le_refl _ | (simp; done) | (simp; omega) | omega))) | exact Below.refl _ _ | assumption)) (by repeat (first | (with_reducible exact Below.refl _ _) | (with_reducible assumption) | ((with_reducible refine Below.setCell ?_ ?_ _); rotate_left; · (first | exact Nat.le_refl _ | (simp; done) | (simp; omega) | omega)) | ((with_reducible refine Below.alloc ?_ ?_ _); rotate_left; · (first | exact Nat.le_refl _ | (simp; done) | (simp; omega) | omega)) | (with_reducible apply Below.drew) | (with_reducible apply below_drewN') | (refine Below.trans ?_ (Below.mono (by assumption) (by first | exact Nat.le_refl _ | (simp; done) | (simp; omega) | omega))) | exact Below.refl _ _ | assumption))
  case ca51R12 => (first | (simp [Act.put]; done) | (simp [Act.put, *]; done))
  try dsimp only
  refine wpW_det (t' := ?ct52R12) 52 (by rfl) (by kernel_rfl) (NQ_free _) (by kernel_rfl) ?cw52R12 ?ch52R12 ?ca52R12 (Eq.refl _) ?cH52R12
  case cw52R12 => (go_simp; done)
  case ch52R12 =>
    intro ds w' hS K hK
    have hc := (bcell hS).1
    have hf := (bcell hS).2
    have hz := hS.size
    try simp at hz
    go_simp
    try go_bits
    first
      | exact hK _ hS (Gr.refl _)
      | exact hK _ (by repeat (first | (with_reducible exact Below.refl _ _) | (with_reducible assumption) | ((with_reducible refine Below.setCell ?_ ?_ _); rotate_left; · (first | exact Nat.le_refl _ | (simp; done) | (simp; omega) | omega)) | ((with_reducible refine Below.alloc ?_ ?_ _); rotate_left; · (first | exact Nat.le_refl _ | (simp; done) | (simp; omega) | omega)) | (with_reducible apply Below.drew) | (with_reducible apply below_drewN') | (refine Below.trans ?_ (Below.mono (by assumption) (by first | exact Nat.le_refl _ | (simp; done) | (simp; omega) | omega))) | exact Below.refl _ _ | assumption)) (by repeat (first | (with_reducible exact Below.refl _ _) | (with_reducible assumption) | ((with_reducible refine Below.setCell ?_ ?_ _); rotate_left; · (first | exact Nat.le_refl _ | (simp; done) | (simp; omega) | omega)) | ((with_reducible refine Below.alloc ?_ ?_ _); rotate_left; · (first | exact Nat.le_refl _ | (simp; done) | (simp; omega) | omega)) | (with_reducible apply Below.drew) | (with_reducible apply below_drewN') | (refine Below.trans ?_ (Below.mono (by assumption) (by first | exact Nat.le_refl _ | (simp; done) | (simp; omega) | omega))) | exact Below.refl _ _ | assumption))
  case ca52R12 => (first | (simp [Act.put]; done) | (simp [Act.put, *]; done))
  try dsimp only
  refine wpW_det (t' := ?ct53R12) 53 (by rfl) (by kernel_rfl) (NQ_free _) (by kernel_rfl) ?cw53R12 ?ch53R12 ?ca53R12 (Eq.refl _) ?cH53R12
  case cw53R12 => (go_simp; done)
  case ch53R12 =>
    intro ds w' hS K hK
    have hc := (bcell hS).1
    have hf := (bcell hS).2
    have hz := hS.size
    try simp at hz
    go_simp
    try go_bits
    first
      | exact hK _ hS (Gr.refl _)
      | exact hK _ (by repeat (first | (with_reducible exact Below.refl _ _) | (with_reducible assumption) | ((with_reducible refine Below.setCell ?_ ?_ _); rotate_left; · (first | exact Nat.le_refl _ | (simp; done) | (simp; omega) | omega)) | ((with_reducible refine Below.alloc ?_ ?_ _); rotate_left; · (first | exact Nat.le_refl _ | (simp; done) | (simp; omega) | omega)) | (with_reducible apply Below.drew) | (with_reducible apply below_drewN') | (refine Below.trans ?_ (Below.mono (by assumption) (by first | exact Nat.le_refl _ | (simp; done) | (simp; omega) | omega))) | exact Below.refl _ _ | assumption)) (by repeat (first | (with_reducible exact Below.refl _ _) | (with_reducible assumption) | ((with_reducible refine Below.setCell ?_ ?_ _); rotate_left; · (first | exact Nat.le_refl _ | (simp; done) | (simp; omega) | omega)) | ((with_reducible refine Below.alloc ?_ ?_ _); rotate_left; · (first | exact Nat.le_refl _ | (simp; done) | (simp; omega) | omega)) | (with_reducible apply Below.drew) | (with_reducible apply below_drewN') | (refine Below.trans ?_ (Below.mono (by assumption) (by first | exact Nat.le_refl _ | (simp; done) | (simp; omega) | omega))) | exact Below.refl _ _ | assumption))
  case ca53R12 => (first | (simp [Act.put]; done) | (simp [Act.put, *]; done))
  try dsimp only
  refine wpW_det (t' := ?ct54R12) 54 (by rfl) (by kernel_rfl) (NQ_free _) (by kernel_rfl) ?cw54R12 ?ch54R12 ?ca54R12 (Eq.refl _) ?cH54R12
  case cw54R12 => (go_simp; done)
  case ch54R12 =>
    intro ds w' hS K hK
    have hc := (bcell hS).1
    have hf := (bcell hS).2
    have hz := hS.size
    try simp at hz
    go_simp
    try go_bits
    first
      | exact hK _ hS (Gr.refl _)
      | exact hK _ (by repeat (first | (with_reducible exact Below.refl _ _) | (with_reducible assumption) | ((with_reducible refine Below.setCell ?_ ?_ _); rotate_left; · (first | exact Nat.le_refl _ | (simp; done) | (simp; omega) | omega)) | ((with_reducible refine Below.alloc ?_ ?_ _); rotate_left; · (first | exact Nat.le_refl _ | (simp; done) | (simp; omega) | omega)) | (with_reducible apply Below.drew) | (with_reducible apply below_drewN') | (refine Below.trans ?_ (Below.mono (by assumption) (by first | exact Nat.le_refl _ | (simp; done) | (simp; omega) | omega))) | exact Below.refl _ _ | assumption)) (by repeat (first | (with_reducible exact Below.refl _ _) | (with_reducible assumption) | ((with_reducible refine Below.setCell ?_ ?_ _); rotate_left; · (first | exact Nat.le_refl _ | (simp; done) | (simp; omega) | omega)) | ((with_reducible refine Below.alloc ?_ ?_ _); rotate_left; · (first | exact Nat.le_refl _ | (simp; done) | (simp; omega) | omega)) | (with_reducible apply Below.drew) | (with_reducible apply below_drewN') | (refine Below.trans ?_ (Below.mono (by assumption) (by first | exact Nat.le_refl _ | (simp; done) | (simp; omega) | omega))) | exact Below.refl _ _ | assumption))
  case ca54R12 => (first | (simp [Act.put]; done) | (simp [Act.put, *]; done))
  try dsimp only
  refine wpW_det (t' := ?ct55R12) 55 (by rfl) (by kernel_rfl) (NQ_free _) (by kernel_rfl) ?cw55R12 ?ch55R12 ?ca55R12 (Eq.refl _) ?cH55R12
  case cw55R12 => (go_simp; done)
  case ch55R12 =>
    intro ds w' hS K hK
    have hc := (bcell hS).1
    have hf := (bcell hS).2
    have hz := hS.size
    try simp at hz
    go_simp
    try go_bits
    first
      | exact hK _ hS (Gr.refl _)
      | exact hK _ (by repeat (first | (with_reducible exact Below.refl _ _) | (with_reducible assumption) | ((with_reducible refine Below.setCell ?_ ?_ _); rotate_left; · (first | exact Nat.le_refl _ | (simp; done) | (simp; omega) | omega)) | ((with_reducible refine Below.alloc ?_ ?_ _); rotate_left; · (first | exact Nat.le_refl _ | (simp; done) | (simp; omega) | omega)) | (with_reducible apply Below.drew) | (with_reducible apply below_drewN') | (refine Below.trans ?_ (Below.mono (by assumption) (by first | exact Nat.le_refl _ | (simp; done) | (simp; omega) | omega))) | exact Below.refl _ _ | assumption)) (by repeat (first | (with_reducible exact Below.refl _ _) | (with_reducible assumption) | ((with_reducible refine Below.setCell ?_ ?_ _); rotate_left; · (first | exact Nat.le_refl _ | (simp; done) | (simp; omega) | omega)) | ((with_reducible refine Below.alloc ?_ ?_ _); rotate_left; · (first | exact Nat.le_refl _ | (simp; done) | (simp; omega) | omega)) | (with_reducible apply Below.drew) | (with_reducible apply below_drewN') | (refine Below.trans ?_ (Below.mono (by assumption) (by first | exact Nat.le_refl _ | (simp; done) | (simp; omega) | omega))) | exact Below.refl _ _ | assumption))
  case ca55R12 => (first | (simp [Act.put]; done) | (simp [Act.put, *]; done))
  try dsimp only
  refine wpW_det (t' := ?ct56R12) 56 (by rfl) (by kernel_rfl) (NQ_free _) (by kernel_rfl) ?cw56R12 ?ch56R12 ?ca56R12 (Eq.refl _) ?cH56R12
  case cw56R12 => (go_simp; done)
  case ch56R12 =>
    intro ds w' hS K hK
    have hc := (bcell hS).1
    have hf := (bcell hS).2
    have hz := hS.size
    try simp at hz
    go_simp
    try go_bits
    first
      | exact hK _ hS (Gr.refl _)
      | exact hK _ (by repeat (first | (with_reducible exact Below.refl _ _) | (with_reducible assumption) | ((with_reducible refine Below.setCell ?_ ?_ _); rotate_left; · (first | exact Nat.le_refl _ | (simp; done) | (simp; omega) | omega)) | ((with_reducible refine Below.alloc ?_ ?_ _); rotate_left; · (first | exact Nat.le_refl _ | (simp; done) | (simp; omega) | omega)) | (with_reducible apply Below.drew) | (with_reducible apply below_drewN') | (refine Below.trans ?_ (Below.mono (by assumption) (by first | exact Nat.le_refl _ | (simp; done) | (simp; omega) | omega))) | exact Below.refl _ _ | assumption)) (by repeat (first | (with_reducible exact Below.refl _ _) | (with_reducible assumption) | ((with_reducible refine Below.setCell ?_ ?_ _); rotate_left; · (first | exact Nat.le_refl _ | (simp; done) | (simp; omega) | omega)) | ((with_reducible refine Below.alloc ?_ ?_ _); rotate_left; · (first | exact Nat.le_refl _ | (simp; done) | (simp; omega) | omega)) | (with_reducible apply Below.drew) | (with_reducible apply below_drewN') | (refine Below.trans ?_ (Below.mono (by assumption) (by first | exact Nat.le_refl _ | (simp; done) | (simp; omega) | omega))) | exact Below.refl _ _ | assumption))
  case ca56R12 => (first | (simp [Act.put]; done) | (simp [Act.put, *]; done))
  try dsimp only
  refine wpW_det (t' := ?ct57R12) 57 (by rfl) (by kernel_rfl) (NQ_free _) (by kernel_rfl) ?cw57R12 ?ch57R12 ?ca57R12 (Eq.refl _) ?cH57R12
  case cw57R12 => (go_simp; done)
  case ch57R12 =>
    intro ds w' hS K hK
    have hc := (bcell hS).1
    have hf := (bcell hS).2
    have hz := hS.size
    try simp at hz
    go_simp
    try go_bits
    first
      | exact hK _ hS (Gr.refl _)
      | exact hK _ (by repeat (first | (with_reducible exact Below.refl _ _) | (with_reducible assumption) | ((with_reducible refine Below.setCell ?_ ?_ _); rotate_left; · (first | exact Nat.le_refl _ | (simp; done) | (simp; omega) | omega)) | ((with_reducible refine Below.alloc ?_ ?_ _); rotate_left; · (first | exact Nat.le_refl _ | (simp; done) | (simp; omega) | omega)) | (with_reducible apply Below.drew) | (with_reducible apply below_drewN') | (refine Below.trans ?_ (Below.mono (by assumption) (by first | exact Nat.le_refl _ | (simp; done) | (simp; omega) | omega))) | exact Below.refl _ _ | assumption)) (by repeat (first | (with_reducible exact Below.refl _ _) | (with_reducible assumption) | ((with_reducible refine Below.setCell ?_ ?_ _); rotate_left; · (first | exact Nat.le_refl _ | (simp; done) | (simp; omega) | omega)) | ((with_reducible refine Below.alloc ?_ ?_ _); rotate_left; · (first | exact Nat.le_refl _ | (simp; done) | (simp; omega) | omega)) | (with_reducible apply Below.drew) | (with_reducible apply below_drewN') | (refine Below.trans ?_ (Below.mono (by assumption) (by first | exact Nat.le_refl _ | (simp; done) | (simp; omega) | omega))) | exact Below.refl _ _ | assumption))
  case ca57R12 => (first | (simp [Act.put]; done) | (simp [Act.put, *]; done))
  try dsimp only
  refine wpW_det (t' := ?ct58R12) 58 (by rfl) (by kernel_rfl) (NQ_free _) (by kernel_rfl) ?cw58R12 ?ch58R12 ?ca58R12 (Eq.refl _) ?cH58R12
  case cw58R12 => (go_simp; done)
  case ch58R12 =>
    intro ds w' hS K hK
    have hc := (bcell hS).1
    have hf := (bcell hS).2
    have hz := hS.size
    try simp at hz
    go_simp
    try go_bits
    first
      | exact hK _ hS (Gr.refl _)
      | exact hK _ (by repeat (first | (with_reducible exact Below.refl _ _) | (with_reducible assumption) | ((with_reducible refine Below.setCell ?_ ?_ _); rotate_left; · (first | exact Nat.le_refl _ | (simp; done) | (simp; omega) | omega)) | ((with_reducible refine Below.alloc ?_ ?_ _); rotate_left; · (first | exact Nat.le_refl _ | (simp; done) | (simp; omega) | omega)) | (with_reducible apply Below.drew) | (with_reducible apply below_drewN') | (refine Below.trans ?_ (Below.mono (by assumption) (by first | exact Nat.le_refl _ | (simp; done) | (simp; omega) | omega))) | exact Below.refl _ _ | assumption)) (by repeat (first | (with_reducible exact Below.refl _ _) | (with_reducible assumption) | ((with_reducible refine Below.setCell ?_ ?_ _); rotate_left; · (first | exact Nat.le_refl _ | (simp; done) | (simp; omega) | omega)) | ((with_reducible refine Below.alloc ?_ ?_ _); rotate_left; · (first | exact Nat.le_refl _ | (simp; done) | (simp; omega) | omega)) | (with_reducible apply Below.drew) | (with_reducible apply below_drewN') | (refine Below.trans ?_ (Below.mono (by assumption) (by first | exact Nat.le_refl _ | (simp; done) | (simp; omega) | omega))) | exact Below.refl _ _ | assumption))
  case ca58R12 => (first | (simp [Act.put]; done) | (simp [Act.put, *]; done))
  try dsimp only
  refine wpW_det (t' := ?ct59R12) 59 (by rfl) (by kernel_rfl) (NQ_free _) (by kernel_rfl) ?cw59R12 ?ch59R12 ?ca59R12 (Eq.refl _) ?cH59R12
  case cw59R12 => (go_simp; done)
  case ch59R12 =>
    intro ds w' hS K hK
    have hc := (bcell hS).1
    have hf := (bcell hS).2
    have hz := hS.size
    try simp at hz
    go_simp
    try go_bits
    first
      | exact hK _ hS (Gr.refl _)
      | exact hK _ (by repeat (first | (with_reducible exact Below.refl _ _) | (with_reducible assumption) | ((with_reducible refine Below.setCell ?_ ?_ _); rotate_left; · (first | exact Nat.le_refl _ | (simp; done) | (simp; omega) | omega)) | ((with_reducible refine Below.alloc ?_ ?_ _); rotate_left; · (first | exact Nat.le_refl _ | (simp; done) | (simp; omega) | omega)) | (with_reducible apply Below.drew) | (with_reducible apply below_drewN') | (refine Below.trans ?_ (Below.mono (by assumption) (by first | exact Nat.le_refl _ | (simp; done) | (simp; omega) | omega))) | exact Below.refl _ _ | assumption)) (by repeat (first | (with_reducible exact Below.refl _ _) | (with_reducible assumption) | ((with_reducible refine Below.setCell ?_ ?_ _); rotate_left; · (first | exact Nat.le_refl _ | (simp; done) | (simp; omega) | omega)) | ((with_reducible refine Below.alloc ?_ ?_ _); rotate_left; · (first | exact Nat.le_refl _ | (simp; done) | (simp; omega) | omega)) | (with_reducible apply Below.drew) | (with_reducible apply below_drewN') | (refine Below.trans ?_ (Below.mono (by assumption) (by first | exact Nat.le_refl _ | (simp; done) | (simp; omega) | omega))) | exact Below.refl _ _ | assumption))
  case ca59R12 => (first | (simp [Act.put]; done) | (simp [Act.put, *]; done))
  try dsimp only
  refine wpW_det (t' := ?ct60R12) 60 (by rfl) (by kernel_rfl) (NQ_free _) (by kernel_rfl) ?cw60R12 ?ch60R12 ?ca60R12 (Eq.refl _) ?cH60R12
  case cw60R12 => (go_simp; done)
  case ch60R12 =>
    intro ds w' hS K hK
    have hc := (bcell hS).1
    have hf := (bcell hS).2
    have hz := hS.size
    try simp at hz
    go_simp
    try go_bits
    first
      | exact hK _ hS (Gr.refl _)
      | exact hK _ (by repeat (first | (with_reducible exact Below.refl _ _) | (with_reducible assumption) | ((with_reducible refine Below.setCell ?_ ?_ _); rotate_left; · (first | exact Nat.le_refl _ | (simp; done) | (simp; omega) | omega)) | ((with_reducible refine Below.alloc ?_ ?_ _); rotate_left; · (first | exact Nat.le_refl _ | (simp; done) | (simp; omega) | omega)) | (with_reducible apply Below.drew) | (with_reducible apply below_drewN') | (refine Below.trans ?_ (Below.mono (by assumption) (by first | exact Nat.le_refl _ | (simp; done) | (simp; omega) | omega))) | exact Below.refl _ _ | assumption)) (by repeat (first | (with_reducible exact Below.refl _ _) | (with_reducible assumption) | ((with_reducible refine Below.setCell ?_ ?_ _); rotate_left; · (first | exact Nat.le_refl _ | (simp; done) | (simp; omega) | omega)) | ((with_reducible refine Below.alloc ?_ ?_ _); rotate_left; · (first | exact Nat.le_refl _ | (simp; done) | (simp; omega) | omega)) | (with_reducible apply Below.drew) | (with_reducible apply below_drewN') | (refine Below.trans ?_ (Below.mono (by assumption) (by first | exact Nat.le_refl _ | (simp; done) | (simp; omega) | omega))) | exact Below.refl _ _ | assumption))
  case ca60R12 => (first | (simp [Act.put]; done) | (simp [Act.put, *]; done))
  try dsimp only
  refine wpW_det (t' := ?ct61R12) 61 (by rfl) (by kernel_rfl) (NQ_free _) (by kernel_rfl) ?cw61R12 ?ch61R12 ?ca61R12 (Eq.refl _) ?cH61R12
  case cw61R12 => (go_simp; done)
  case ch61R12 =>
    intro ds w' hS K hK
    have hc := (bcell hS).1
    have hf := (bcell hS).2
    have hz := hS.size
    try simp at hz
    go_simp
    try go_bits
    first
      | exact hK _ hS (Gr.refl _)
      | exact hK _ (by repeat (first | (with_reducible exact Below.refl _ _) | (with_reducible assumption) | ((with_reducible refine Below.setCell ?_ ?_ _); rotate_left; · (first | exact Nat.le_refl _ | (simp; done) | (simp; omega) | omega)) | ((with_reducible refine Below.alloc ?_ ?_ _); rotate_left; · (first | exact Nat.le_refl _ | (simp; done) | (simp; omega) | omega)) | (with_reducible apply Below.drew) | (with_reducible apply below_drewN') | (refine Below.trans ?_ (Below.mono (by assumption) (by first | exact Nat.le_refl _ | (simp; done) | (simp; omega) | omega))) | exact Below.refl _ _ | assumption)) (by repeat (first | (with_reducible exact Below.refl _ _) | (with_reducible assumption) | ((with_reducible refine Below.setCell ?_ ?_ _); rotate_left; · (first | exact Nat.le_refl _ | (simp; done) | (simp; omega) | omega)) | ((with_reducible refine Below.alloc ?_ ?_ _); rotate_left; · (first | exact Nat.le_refl _ | (simp; done) | (simp; omega) | omega)) | (with_reducible apply Below.drew) | (with_reducible apply below_drewN') | (refine Below.trans ?_ (Below.mono (by assumption) (by first | exact Nat.le_refl _ | (simp; done) | (simp; omega) | omega))) | exact Below.refl _ _ | assumption))
  case ca61R12 => (first | (simp [Act.put]; done) | (simp [Act.put, *]; done))
  try dsimp only
  refine wpW_det (t' := ?ct62R12) 62 (by rfl) (by kernel_rfl) (NQ_free _) (by kernel_rfl) ?cw62R12 ?ch62R12 ?ca62R12 (Eq.refl _) ?cH62R12
  case cw62R12 => (go_simp; done)
  case ch62R12 =>
    intro ds w' hS K hK
    have hc := (bcell hS).1
    have hf := (bcell hS).2
    have hz := hS.size
    try simp at hz
    go_simp
    try go_bits
    first
      | exact hK _ hS (Gr.refl _)
      | exact hK _ (by repeat (first | (with_reducible exact Below.refl _ _) | (with_reducible assumption) | ((with_reducible refine Below.setCell ?_ ?_ _); rotate_left; · (first | exact Nat.le_refl _ | (simp; done) | (simp; omega) | omega)) | ((with_reducible refine Below.alloc ?_ ?_ _); rotate_left; · (first | exact Nat.le_refl _ | (simp; done) | (simp; omega) | omega)) | (with_reducible apply Below.drew) | (with_reducible apply below_drewN') | (refine Below.trans ?_ (Below.mono (by assumption) (by first | exact Nat.le_refl _ | (simp; done) | (simp; omega) | omega))) | exact Below.refl _ _ | assumption)) (by repeat (first | (with_reducible exact Below.refl _ _) | (with_reducible assumption) | ((with_reducible refine Below.setCell ?_ ?_ _); rotate_left; · (first | exact Nat.le_refl _ | (simp; done) | (simp; omega) | omega)) | ((with_reducible refine Below.alloc ?_ ?_ _); rotate_left; · (first | exact Nat.le_refl _ | (simp; done) | (simp; omega) | omega)) | (with_reducible apply Below.drew) | (with_reducible apply below_drewN') | (refine Below.trans ?_ (Below.mono (by assumption) (by first | exact Nat.le_refl _ | (simp; done) | (simp; omega) | omega))) | exact Below.refl _ _ | assumption))
  case ca62R12 => (first | (simp [Act.put]; done) | (simp [Act.put, *]; done))
  try dsimp only
  refine wpW_end (by kernel_rfl) ?_
  intro wE hgE hSE
  unfold NQ
  dsimp only
  go_wp2
  go_ret
  exact ⟨rfl, hA17.trans (hSE.mono (Below.size hA17))⟩
end Go.Proofs.YtkbggcencmjgfaaGreatDoor
