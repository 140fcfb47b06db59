/- Contract: the pairs of two lists and a cover, or the errors. -/
import Derived.Test.YtidgeagpgllkeaaGreatFqN
namespace Go.Proofs.YtidgeagpgllkeaaGreat
open Go.RowKit Go.Shelf

theorem open_small {l0 l1 : List Mk} {slack : Int} (he : openE l0 l1 slack = 0) : Hid (∀ m ∈ l0, MkS m) ∧ Hid (∀ m ∈ l1, MkS m) := by
  have hz := (firstE_zero _).1 he
  exact ⟨Lib.hid (marks_small (hz (marksE l0).2 (by simp))), Lib.hid (marks_small (hz (marksE l1).2 (by simp)))⟩

set_option maxRecDepth 100000 in
set_option maxHeartbeats 8000000 in
theorem compared_bad (l0 l1 : List Mk) (A0 A1 : Option Addr) (c0 c1 B : Nat) (slack : Int) (w : World) (h0 : MkOk l0 A0 B w) (h1 : MkOk l1 A1 B w) (hc0 : l0.length ≤ c0) (hc1 : l1.length ≤ c1) (hB : B ≤ w.heap.size) (he : openE l0 l1 slack ≠ 0) :
    Calls Tryz.prog 79 #[.slice A0 l0.length c0, .slice A1 l1.length c1, .int .i64 slack] w fun e w' => e = .returned (.tuple #[.slice none 0 0, .agg #[.slice none 0 0, .slice none 0 0], .int .i64 (openE l0 l1 slack)]) ∧ Below w.heap.size w w' := by
  have bC := Blk.new w 126 #[.slice none 0 0, .slice none 0 0]
  have hgA : Gr w (w.alloc (.cells #[.slice none 0 0, .slice none 0 0] 126)) := (Below.refl _ _).alloc (Nat.le_refl _) _
  have HE := Lib.hid he
  go_enter Tryz.func79, Tryz.ntmps79
  go_wp2_with fail
  obtain ⟨W, hW⟩ : ∃ W, w.alloc (.cells #[.slice none 0 0, .slice none 0 0] 126) = W := ⟨_, rfl⟩
  rw [hW] at bC hgA ⊢
  clear hW
  refine (openLists_bad l0 l1 A0 A1 c0 c1 B slack W (h0.below hgA hB) (h1.below hgA hB) hc0 hc1 (Nat.le_trans hB (Below.size hgA)) HE.out).mono ?_
  rintro e w1 ⟨rfl, hB1⟩
  obtain ⟨E, hE⟩ : ∃ E, openE l0 l1 slack = E := ⟨_, rfl⟩
  rw [hE] at he ⊢
  have HE2 := Lib.hid hE
  have hne : (E != 0) = true := by simpa using he
  have b1 := bC.gr hB1
  have hB2 := Below.trans hgA (hB1.mono (Below.size hgA))
  obtain ⟨d0, d1, df⟩ := blk2c b1
  have ld := b1.lt
  clear bC hgA hB1 hE HE
  go_wp2
  obtain ⟨u0, u1, _⟩ := blk2c (b1.set2 (.slice none 0 0) (.slice none 0 0))
  exact bodyPost_ret (v := .tuple #[.slice none 0 0, .agg #[.slice none 0 0, .slice none 0 0], .int .i64 E]) (by simp [results, Tryz.results79, go_sem, u0, u1]) rfl ⟨by rw [HE2.out], (hB2.setCell (Nat.le_refl _) _).setCell (Nat.le_refl _) _⟩

set_option maxRecDepth 100000 in
set_option maxHeartbeats 8000000 in
theorem compared_ok (l0 l1 : List Mk) (A0 A1 : Option Addr) (c0 c1 B : Nat) (slack : Int) (w : World) (h0 : MkOk l0 A0 B w) (h1 : MkOk l1 A1 B w) (hc0 : l0.length ≤ c0) (hc1 : l1.length ≤ c1) (hB : B ≤ w.heap.size) (hn0 : l0.length ≤ 1000) (hn1 : l1.length ≤ 1000) (he : openE l0 l1 slack = 0) :
    Calls Tryz.prog 79 #[.slice A0 l0.length c0, .slice A1 l1.length c1, .int .i64 slack] w fun e w' => ∃ (AP AF AS : Option Addr) (cP cF cS : Nat) (Fl Sl : List Int), e = .returned (.tuple #[.slice AP (PV l0 l1 slack).length cP, .agg #[.slice AF Fl.length cF, .slice AS Sl.length cS], .int .i64 0]) ∧
      w'.ownsRow w.heap.size 25 2 (.slice AP (PV l0 l1 slack).length cP) (PV l0 l1 slack).length (cellsC (PV l0 l1 slack)) ∧ w'.ownsRow w.heap.size 3 1 (.slice AF Fl.length cF) Fl.length (intsC Fl) ∧ w'.ownsRow w.heap.size 3 1 (.slice AS Sl.length cS) Sl.length (intsC Sl) ∧
      Hid (CmpOk l0.length l1.length (relV l0 l1 slack) (PV l0 l1 slack) Fl Sl ∧ Fl.length ≤ l0.length ∧ Sl.length ≤ l1.length) ∧ Below w.heap.size w w' := by
  have bC := Blk.new w 126 #[.slice none 0 0, .slice none 0 0]
  have hgA : Gr w (w.alloc (.cells #[.slice none 0 0, .slice none 0 0] 126)) := (Below.refl _ _).alloc (Nat.le_refl _) _
  have HE := Lib.hid he
  clear he
  obtain ⟨HS0, HS1⟩ := open_small HE.out
  go_enter Tryz.func79, Tryz.ntmps79
  go_wp2_with fail
  obtain ⟨W, hW⟩ : ∃ W, w.alloc (.cells #[.slice none 0 0, .slice none 0 0] 126) = W := ⟨_, rfl⟩
  have hsz : W.heap.size = w.heap.size + 1 := by rw [← hW]; simp
  rw [hW] at bC hgA ⊢
  clear hW
  have m0 := h0.below hgA hB
  have m1 := h1.below hgA hB
  have hBW : B ≤ W.heap.size := by omega
  have lC := bC.lt
  refine (openLists_ok l0 l1 A0 A1 c0 c1 B slack W m0 m1 hc0 hc1 hBW hn0 hn1 HE.out).mono ?_
  rintro e w1 ⟨q, p0, p1, rfl, M⟩
  go_wp2_with fail
  refine (solve_any W q p0 p1 B l0 l1 A0 A1 c0 c1 slack m0.row m1.row hBW HS0 HS1 hn0 hn1 _ M).mono ?_
  rintro e w2 ⟨⟨v, rfl⟩, T, F, M2, hT, hF⟩
  clear M
  have HK : Hid (KI (relV l0 l1 slack) l1.length l0.length (ofL F) (ofL T)) := Lib.hid (by rw [hT, hF]; exact kuhn_ki _ _ _)
  have HTF := Lib.hid (And.intro hT hF)
  clear hT hF
  go_wp2_with fail
  refine (pairs_any W q p0 p1 _ _ _ _ slack T F _ M2 hn0).mono ?_
  rintro e w3 ⟨vP, rfl, hP, hB3⟩
  have hPV : pairsV l0.length (ofL T) = PV l0 l1 slack := by unfold PV; rw [HTF.out.1]
  rw [hPV] at hP
  have hz2 := Below.size M2.r0.below
  have M3 := M2.gr hB3
  obtain ⟨AP, cP, rfl⟩ := own_slice hP
  have HP := Lib.hid hP
  clear hP hPV
  go_wp2_with fail
  refine (cover_any W q p0 p1 B l0 l1 A0 A1 c0 c1 slack T F m0.row m1.row hBW HS0 HS1 hn0 hn1 _ M3 HK).mono ?_
  rintro e w4 ⟨AF, AS, cF, cS, x0, x1, rfl, hFr, hSr, hR, hB4⟩
  have hz3 := Below.size M3.r0.below
  have hW4 : Below W.heap.size W w4 := M3.r0.below.trans (hB4.mono hz3)
  have b4 := bC.below hW4 lC
  have hR' : Rch (relV l0 l1 slack) l0.length l1.length (kuhn (relV l0 l1 slack) l1.length l0.length).1 (kuhn (relV l0 l1 slack) l1.length l0.length).2.1 x0 x1 := by rw [← HTF.out.1, ← HTF.out.2]; exact hR
  have HR := Lib.hid (And.intro (PV_cmp hR') (And.intro (numsV_le l0.length (fun a => !x0 a)) (numsV_le l1.length x1)))
  have rP := own_lower (own_below HP.out hB4) (show w.heap.size ≤ w2.heap.size by omega)
  have rF := own_lower hFr (show w.heap.size ≤ w3.heap.size by omega)
  have rS := own_lower hSr (show w.heap.size ≤ w3.heap.size by omega)
  have hBE := Below.trans hgA (hW4.mono (show w.heap.size ≤ W.heap.size by omega))
  clear hR hR' hFr hSr HP M2 M3 HTF HK bC hB3 hB4 hW4
  obtain ⟨Fl, hFl⟩ : ∃ L, numsV l0.length (fun a => !x0 a) = L := ⟨_, rfl⟩
  obtain ⟨Sl, hSl⟩ : ∃ L, numsV l1.length x1 = L := ⟨_, rfl⟩
  rw [hFl] at HR rF ⊢
  rw [hSl] at HR rS ⊢
  clear hFl hSl
  obtain ⟨d0, d1, df⟩ := blk2c b4
  have ld := b4.lt
  have oP := own_blk_ne rP b4 (by decide)
  have oF := own_blk_ne rF b4 (by decide)
  have oS := own_blk_ne rS b4 (by decide)
  go_wp2
  obtain ⟨u0, u1, _⟩ := blk2c (b4.set2 (.slice AF Fl.length cF) (.slice AS Sl.length cS))
  refine bodyPost_ret (v := .tuple #[.slice AP (PV l0 l1 slack).length cP, .agg #[.slice AF Fl.length cF, .slice AS Sl.length cS], .int .i64 0]) (by simp [results, Tryz.results79, go_sem, u0, u1]) rfl ⟨AP, AF, AS, cP, cF, cS, Fl, Sl, rfl, ?_, ?_, ?_, HR, (hBE.setCell (Nat.le_refl _) _).setCell (Nat.le_refl _) _⟩
  · exact ownsRow_setCell_other (ownsRow_setCell_other rP oP _) oP _
  · exact ownsRow_setCell_other (ownsRow_setCell_other rF oF _) oF _
  · exact ownsRow_setCell_other (ownsRow_setCell_other rS oS _) oS _
end Go.Proofs.YtidgeagpgllkeaaGreat
