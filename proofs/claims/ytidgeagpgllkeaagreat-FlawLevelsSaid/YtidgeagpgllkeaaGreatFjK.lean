/- The law FlawLevels answers true. -/
import Derived.Test.YtidgeagpgllkeaaGreatFjM
namespace Go.Proofs.YtidgeagpgllkeaaGreat
open Go.RowKit

set_option maxRecDepth 100000 in
set_option maxHeartbeats 8000000 in
theorem flawLevels_any (l : List Sc) (A : Option Addr) (c : Nat) (level : Int) (corners : Bool) (more : Int) (w : World) (ha : ScArg l A c w) :
    Calls Tryz.prog 11 #[.slice A l.length c, .agg #[.int .i64 level, .bool corners], .int .i64 more] w fun e w' => e = .returned (.bool true) ∧ Below w.heap.size w w' := by
  have HNIL := Lib.hid ha.nil
  have hle := ha.le
  have hmost := ha.most
  have b4 := Blk.new w 24 #[.int .i64 level, .bool corners]
  have hBB : Below w.heap.size w (w.alloc (.cells #[.int .i64 level, .bool corners] 24)) := (by repeat (first | (with_reducible exact Below.refl _ _) | (with_reducible assumption) | ((with_reducible refine Below.setCell ?_ ?_ _); rotate_left; · (first | exact Nat.le_refl _ | (simp; done) | (simp; omega) | omega)) | ((with_reducible refine Below.alloc ?_ ?_ _); rotate_left; · (first | exact Nat.le_refl _ | (simp; done) | (simp; omega) | omega)) | (with_reducible apply Below.drew) | (with_reducible apply below_drewN') | (refine Below.trans ?_ (Below.mono (by assumption) (by first | exact Nat.le_refl _ | (simp; done) | (simp; omega) | omega))) | exact Below.refl _ _ | assumption))
  go_enter Tryz.func11, Tryz.ntmps11
  go_wp2_with fail
  obtain ⟨W, hW⟩ : ∃ W, w.alloc (.cells #[.int .i64 level, .bool corners] 24) = W := ⟨_, rfl⟩
  rw [hW] at b4 hBB ⊢
  clear hW
  refine (awake_any _).mono ?_
  rintro e w1 ⟨rfl, hB1⟩
  replace b4 := b4.gr hB1
  replace hBB := hBB.trans (hB1.mono (Below.size hBB))
  clear hB1
  have l_b4 := b4.lt
  obtain ⟨e0, e1, f4⟩ := blk2c b4
  go_wp2_with fail
  refine (few_wide l A c w.heap.size _ (by omega) (ha.row.below hBB (Nat.le_refl _)) (Lib.hid (fun s hs => by have := (ha.each s hs).2.2; omega)) (Below.size hBB)).mono ?_
  rintro e wc1 ⟨rfl, hBc1⟩
  replace b4 := b4.gr hBc1
  replace hBB := hBB.trans (Below.mono hBc1 (Below.size hBB))
  clear hBc1
  clear l_b4 e0 e1 f4
  have l_b4 := b4.lt
  obtain ⟨e0, e1, f4⟩ := blk2c b4
  cases hf : fewB l
  · go_wp2
    go_ret
    exact ⟨rfl, hBB⟩
  have hl := ha.ok hf
  obtain ⟨hl8, hd36⟩ := fewB_true hf
  have HD : Hid (∀ s ∈ l, s.data.length ≤ s.dcap ∧ (s.dA = none → s.dcap = 0)) := Lib.hid (fun s hs => ⟨(ha.each s hs).2.2.1, (ha.each s hs).1⟩)
  have HSZ : Hid (∀ s ∈ l, s.data.length ≤ 1000000000) := Lib.hid hl.size
  clear hf hd36 ha
  cases hw0 : wi level 0 1000000000
  · have Q0 := Lib.hid hw0; clear hw0
    go_wp2_with (go_at_call 27; refine (bWithin_any _ _ _ _).mono ?_; rw [Q0.out]; rintro e w1 ⟨rfl, rfl⟩)
    go_ret
    exact ⟨rfl, hBB⟩
  have hlv : 0 ≤ level ∧ level ≤ 1000000000 := by simpa [wi] using hw0
  cases hw1 : wi more 0 (1000000000 - level)
  · have Q0 := Lib.hid hw0; have Q1 := Lib.hid hw1; clear hw0 hw1
    go_wp2_with (go_at_call 27; refine (bWithin_any _ _ _ _).mono ?_; (first | rw [Q0.out] | rw [Q1.out]); rintro e w1 ⟨rfl, rfl⟩)
    go_ret
    exact ⟨rfl, hBB⟩
  have hm : 0 ≤ more ∧ more ≤ 1000000000 - level := by simpa [wi] using hw1
  have Q0 := Lib.hid hw0; have Q1 := Lib.hid hw1; clear hw0 hw1
  obtain ⟨E1, hE1⟩ : ∃ E, (scansE l).1 = E := ⟨_, rfl⟩
  obtain ⟨E2, hE2⟩ : ∃ E, (scansE l).2 = E := ⟨_, rfl⟩
  have HE1 := Lib.hid hE1; have HE2 := Lib.hid hE2
  clear hE1 hE2
  go_wp2_with (go_at_call 27; refine (bWithin_any _ _ _ _).mono ?_; (first | rw [Q0.out] | rw [Q1.out]); rintro e w1 ⟨rfl, rfl⟩)
  go_wp2_with fail
  refine (refCheckScans_any l A c w.heap.size _ (hl.below hBB (Nat.le_refl _)) (Below.size hBB)).mono ?_
  rw [HE1.out, HE2.out]
  rintro e wc2 ⟨rfl, hBc2⟩
  replace b4 := b4.gr hBc2
  replace hBB := hBB.trans (Below.mono hBc2 (Below.size hBB))
  clear hBc2
  clear l_b4 e0 e1 f4
  have l_b4 := b4.lt
  obtain ⟨e0, e1, f4⟩ := blk2c b4
  by_cases h0 : E2 = 0
  case neg =>
    have h1 : (E2 != 0) = true := by simpa using h0
    go_wp2
    go_ret
    exact ⟨by first | rfl | (simp; done), hBB⟩
  subst h0
  obtain ⟨hl6, hgood⟩ := scansE_zero HE2.out
  have HG := Lib.hid hgood
  have HAT : Hid (∀ x y, 0 ≤ atV l x y → (W64 x ∧ W64 y) ∧ ∀ L : List Sc, L.map Sc.core = l.map Sc.core → (atE L x y).1 = atV l x y ∧ (atE L x y).2 = 0) := Lib.hid (fun x y h => ⟨atV_w64 hgood x y h, fun L hL => by
    have hz : (scansE l).2 = 0 := HE2.out
    rw [atE_core hL]; unfold atE; rw [if_pos hz, if_neg (by omega)]; exact ⟨rfl, rfl⟩⟩)
  clear hgood HE1 HE2
  go_upto_region 8 with fail
  have HL : Hid (∀ w', Below wc2.heap.size wc2 w' → ScOk l A w.heap.size w') := Lib.hid (fun w' h => hl.below (hBB.trans (h.mono (Below.size hBB))) (Nat.le_refl _))
  refine levReg8 l A c w.heap.size level corners HL (Below.size hBB) hle hl6 HNIL HD HSZ HG b4 (Lib.hid (by simp [wi]; omega)) _ ?_
  intro t46 t47 t48 t49 t50 t51 t52 t53 t54 A1 c1 B1 P As w8 hLo hB1 hB8
  try dsimp only
  clear l_b4 e0 e1 f4
  replace b4 := b4.gr hB8
  replace hBB := hBB.trans (hB8.mono (Below.size hBB))
  clear hB8 HL
  have l_b4 := b4.lt
  obtain ⟨e0, e1, f4⟩ := blk2c b4
  go_upto_region 9 with fail
  have HL : Hid (∀ w', Below w8.heap.size w8 w' → ScOk l A w.heap.size w') := Lib.hid (fun w' h => hl.below (hBB.trans (h.mono (Below.size hBB))) (Nat.le_refl _))
  refine levReg9 l A c w.heap.size level more corners HL (Below.size hBB) hle hl6 HNIL HD HSZ HG b4 hlv hm _ ?_
  intro t55 t56 t57 t58 t59 t60 t61 t62 t63 t64 t65 t66 t67 A2 c2 B2 P2 Bs w9 hHi hB2 hB9
  try dsimp only
  clear l_b4 e0 e1 f4
  replace b4 := b4.gr hB9
  replace hLo := hLo.below hB9 hB1
  replace hB1 := Nat.le_trans hB1 (Below.size hB9)
  replace hBB := hBB.trans (hB9.mono (Below.size hBB))
  clear hB9 HL
  have HV := Lib.hid (levI hm.1 hLo.pls hHi.pls hLo.ars hHi.ars)
  have HP2 := Lib.hid hHi.pls
  have hsh := hHi.pls.short HG.out hl6
  have hA1 := hLo.ok; have hA2 := hHi.ok
  clear hLo hHi
  have hwz := Below.size hBB
  obtain ⟨e0, e1, f4⟩ := blk2c b4
  have l4 := b4.lt
  have hSUM : Hid (∀ i, sumA Bs i ≤ 3456) := Lib.hid (fun i => by have := sumA_le Bs i; have := HV.out.sum; omega)
  go_wp2
  go_loopw [13, 14] (fun s13 s14 wr => ∃ i : Nat, i ≤ Bs.length ∧ s13 = .int .i64 (sumA Bs i : Nat) ∧ s14 = .int .i64 i ∧ Below w9.heap.size w9 wr) (fun _ s14 _ => Bs.length - (intOf s14).toNat)
  case atStart => exact ⟨0, Nat.zero_le _, rfl, rfl, Below.refl _ _⟩
  case round =>
    clear e0 e1 f4 l4
    obtain ⟨i, hi, rfl, rfl, hx⟩ := hrel
    have hzx := Below.size hx
    by_cases hlt : i < Bs.length
    · obtain ⟨g2, o2, hAA, hg2, y0, y1, y2, y3⟩ := hA2.cell hlt
      obtain ⟨hlb, Ab, cb, eb, rb⟩ := hA2.each _ (List.getElem_mem hlt)
      rw [eb] at y0
      have hbm := List.getElem_mem hlt
      have HANY := Lib.hid (HV.out.low _ hbm)
      have hpos := HV.out.pos _ hbm
      have hs0 := hSUM.out i
      have hs1 := hSUM.out (i + 1)
      have hss := sumA_succ hlt
      obtain ⟨v2, hv2⟩ : ∃ v, atV l (peakV (atV l) Bs[i].2).1 (peakV (atV l) Bs[i].2).2 = v := ⟨_, rfl⟩
      rw [hv2] at y3
      have HMOST : Hid (∀ x ∈ Bs[i].2, level + more ≤ atV l x.1 x.2 ∧ atV l x.1 x.2 ≤ v2) := Lib.hid (fun x hxm => by rw [← hv2]; exact HV.out.most _ hbm x hxm)
      obtain ⟨S, hS⟩ : ∃ S, sumA Bs i = S := ⟨_, rfl⟩
      rw [hS] at hs0 hss ⊢
      rw [hss] at hs1
      have HSS := Lib.hid hss
      clear y1 y2 hv2 hS hss hbm eb
      have i1 : ((i : Int) < (Bs.length : Int)) := by omega
      have lg2 : g2 < w9.heap.size := by omega
      subst hAA
      have HL2 := fun wr (hx : Below w9.heap.size w9 wr) => @levLoop2 (atV l) As Bs A1 (some ⟨g2, o2, none⟩) c1 c2 B1 B2 w9 wr hA1 hA2 hB1 hB2 i hlt hx
      have HL2 := Lib.hid HL2
      obtain ⟨lb, hlbe⟩ : ∃ lb, Bs[i].2 = lb := ⟨_, rfl⟩
      simp only [hlbe] at HL2 y0 hlb rb HANY hpos hs1 HMOST HSS
      clear hlbe
      have HY : Hid (∀ wr, Below w9.heap.size w9 wr → wr.cell? ⟨g2, o2 + i * 4, none⟩ = some (.slice Ab lb.length cb)) := Lib.hid (fun wr h => (h.cell (p := ⟨g2, o2 + i * 4, none⟩) lg2).trans y0)
      have hne : ((lb.length : Int) == 0) = false := beq_eq_false_iff_ne.2 (by omega)
      have hnb := hA2.len
      go_wp2
      have hl2 := HL2.out
      unfold bodyOf at hl2
      conv at hl2 in (Option.getD _ Code.skip) => whnf
      refine hl2 wr hx _ ?_
      clear hl2 HL2 hx hzx
      intro t16 t80 t81 t82 t83 t84 t85 t86 t87 t88 t89 t90 t91 t92 t93 t94 t95 t96 t97 w20 hx
      rw [HANY.out]
      have hzx := Below.size hx
      have lg2' : g2 < w20.heap.size := by omega
      have y0' := HY.out w20 hx
      go_wp2
      clear y0' lg2'
      have hl3 := levLoop3 l A c w.heap.size level more corners (V := w9) (wr0 := w20) (c2 := c2) (Lib.hid (fun w' h => hl.below (hBB.trans (h.mono hwz)) (Nat.le_refl _))) hwz hle hl6 HNIL HD HSZ b4 hlt hnb lg2 y0 y3 rb hB2 hlb hlv hm HMOST HAT
      unfold bodyOf at hl3
      conv at hl3 in (Option.getD _ Code.skip) => whnf
      refine hl3 hx _ ?_
      clear hl3 hx hzx
      intro t6 t17 t18 t19 t117 t118 t119 t120 t121 t122 t123 t124 t125 t126 t127 t128 t129 t130 t131 t132 t133 t134 t135 t136 t137 t138 t139 t140 t141 t142 t143 t144 t145 t146 t147 t148 t149 t150 t151 t152 t153 t154 t155 t156 t157 t158 t159 w30 hx
      go_wp2
      refine ⟨⟨i + 1, by omega, ?_, by go_num, hx⟩, by simp [intOf]; omega⟩
      rw [HSS.out]; go_num
    · obtain rfl : i = Bs.length := by omega
      have b4' := b4.gr hx
      obtain ⟨e0, e1, f4⟩ := blk2c b4'
      have l4 := b4'.lt
      have hsum : sumA Bs Bs.length = P2.length := by unfold sumA; rw [List.take_length]; exact HV.out.sum
      rw [hsum]
      clear hsum
      go_wp2_with fail
      refine (cells_any l A c w.heap.size (level + more) _ (hl.below (hBB.trans (hx.mono hwz)) (Nat.le_refl _)) (by omega) HG (by omega) hl6).mono ?_
      rintro e w30 ⟨v, L, rfl, hPL, hLl, ownL, hB30⟩
      obtain rfl : L = P2 := hPL.eq HP2.out
      obtain ⟨Av, cv, rfl, _, _, _⟩ := own_row2 ownL
      replace hx := hx.trans (hB30.mono hzx)
      clear ownL hPL hB30
      go_wp2
      go_ret
      exact ⟨by first | rfl | (simp; done), hBB.trans (hx.mono hwz)⟩
end Go.Proofs.YtidgeagpgllkeaaGreat
