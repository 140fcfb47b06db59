/- The reference's Parse. -/
import Derived.Test.YtaekcfancfoccaaGreatDoorZmCuR
namespace Go.Proofs.YtaekcfancfoccaaGreatDoor
open Go.RowKit Go.Lib

theorem cut_row {w : World} {base : Nat} {v : Value} {t : ByteArray} (h : w.ownsRow base 9 1 v (cutB 10 t).length (strsC (cutB 10 t))) :
    ∃ g cap, v = .slice (some ⟨g, 0, none⟩) (cutL 10 t.data.toList).length cap ∧ (cutL 10 t.data.toList).length ≤ cap ∧ base ≤ g ∧ g < w.heap.size ∧ ∀ j (hj : j < (cutL 10 t.data.toList).length), w.cell? ⟨g, j, none⟩ = some (.string (strB (cutL 10 t.data.toList)[j])) := by
  have hl : (cutB 10 t).length = (cutL 10 t.data.toList).length := by unfold cutB; simp
  obtain ⟨A, cap, rfl, hc, hA⟩ := own_shape h
  rw [hl] at hc hA ⊢
  have hp : 0 < (cutL 10 t.data.toList).length := List.length_pos_iff.2 (cutL_ne _ _)
  obtain ⟨g, rfl, hb, hg, hcell, _⟩ := hA hp
  refine ⟨g, cap, rfl, hc, hb, hg, fun j hj => ?_⟩
  rw [hcell j (by omega), strsC_at (by rw [hl]; exact hj)]
  simp [cutB, strB]
theorem cut_small (t : ByteArray) : (cutL 10 t.data.toList).length ≤ t.size + 1 ∧ ∀ l ∈ cutL 10 t.data.toList, l.length ≤ t.size := by
  have e : t.data.toList.length = t.size := by rw [Array.length_toList]; rfl
  refine ⟨?_, fun l hl => by rw [← e]; exact cutL_size 10 _ l hl⟩
  rw [cutL_count, ← e]
  have := List.count_le_length (a := (10 : UInt8)) (l := t.data.toList)
  omega
theorem cut_rowN {w : World} {base : Nat} {v : Value} {t : ByteArray} (h : w.ownsRow base 9 1 v (cutB 10 t).length (strsC (cutB 10 t))) (hl : (cutL 10 t.data.toList).getLast (cutL_ne 10 _) = []) :
    ∃ g cap m, v = .slice (some ⟨g, 0, none⟩) (m + 1) cap ∧ m + 1 ≤ cap ∧ base ≤ g ∧ g < w.heap.size ∧ w.cell? ⟨g, m, none⟩ = some (.string ⟨#[]⟩) ∧ (linesR t.data.toList).length = m ∧ ∀ j (hj : j < (linesR t.data.toList).length), w.cell? ⟨g, j, none⟩ = some (.string (strB (linesR t.data.toList)[j])) := by
  obtain ⟨g, cap, rfl, hc, hb, hg, hcell⟩ := cut_row h
  have hp : 0 < (cutL 10 t.data.toList).length := List.length_pos_iff.2 (cutL_ne _ _)
  have e : linesR t.data.toList = (cutL 10 t.data.toList).dropLast := if_pos hl
  obtain ⟨m, hm⟩ : ∃ m, (cutL 10 t.data.toList).length = m + 1 := ⟨_, (Nat.sub_add_cancel hp).symm⟩
  have el : (linesR t.data.toList).length = m := by rw [e, List.length_dropLast, hm]; rfl
  refine ⟨g, cap, m, by rw [hm], by omega, hb, hg, ?_, el, fun j hj => ?_⟩
  · rw [hcell m (by omega)]
    rw [List.getLast_eq_getElem] at hl
    have : (cutL 10 t.data.toList)[m]'(by omega) = [] := by rw [← hl]; congr 1; omega
    rw [this]; rfl
  · rw [hcell j (by omega)]
    congr 3
    simp only [e]
    exact List.getElem_dropLast ..|>.symm
theorem cut_rowF {w : World} {base : Nat} {v : Value} {t : ByteArray} (h : w.ownsRow base 9 1 v (cutB 10 t).length (strsC (cutB 10 t))) (hl : ¬ (cutL 10 t.data.toList).getLast (cutL_ne 10 _) = []) :
    ∃ g cap m s, v = .slice (some ⟨g, 0, none⟩) (m + 1) cap ∧ m + 1 ≤ cap ∧ base ≤ g ∧ g < w.heap.size ∧ w.cell? ⟨g, m, none⟩ = some (.string s) ∧ (s.toList == []) = false ∧ (linesR t.data.toList).length = m + 1 ∧ ∀ j (hj : j < (linesR t.data.toList).length), w.cell? ⟨g, j, none⟩ = some (.string (strB (linesR t.data.toList)[j])) := by
  obtain ⟨g, cap, rfl, hc, hb, hg, hcell⟩ := cut_row h
  have hp : 0 < (cutL 10 t.data.toList).length := List.length_pos_iff.2 (cutL_ne _ _)
  have e : linesR t.data.toList = cutL 10 t.data.toList := if_neg hl
  obtain ⟨m, hm⟩ : ∃ m, (cutL 10 t.data.toList).length = m + 1 := ⟨_, (Nat.sub_add_cancel hp).symm⟩
  refine ⟨g, cap, m, _, by rw [hm], by omega, hb, hg, hcell m (by omega), ?_, by rw [e, hm], fun j hj => ?_⟩
  · rw [List.getLast_eq_getElem] at hl
    refine beq_eq_false_iff_ne.2 (fun h => hl ?_)
    have h2 : (cutL 10 t.data.toList)[m]'(by omega) = [] := by simpa [strB, ByteArray.toList_eq] using h
    rw [← h2]; congr 1; omega
  · rw [hcell j (by rw [← e]; exact hj)]
    congr 3
    simp only [e]
def ParseR (t : ByteArray) (w : World) (e : Ending) (w' : World) : Prop := ∃ (A : Option Addr) (c : Nat), e = .returned (.tuple #[.agg (joC (parseT t).1 A c), .agg #[.int .i64 (parseT t).2.1.1, .int .i64 (parseT t).2.1.2], .int .i64 (parseT t).2.2]) ∧ JoR (parseT t).1 A c w' ∧ Below w.heap.size w w'
theorem blk2c {w : World} {g : Nat} {t : TypeId} {v0 v1 : Value} (h : Blk w g t #[v0, v1]) : w.cell? ⟨g, 0, none⟩ = some v0 ∧ w.cell? ⟨g, 1, none⟩ = some v1 := ⟨h.cell 0, h.cell 1⟩
theorem JoR.far1 {j : Jo} {A : Option Addr} {c g : Nat} {w : World} (h : JoR j A c w) (hb : ∀ a, A = some a → a.block ≠ g) (i : Nat) (u : Value) : JoR j A c (w.setCell ⟨g, i, none⟩ u) :=
  ⟨⟨h.row.1, fun hn => by
    obtain ⟨b, o, e, hg, hc⟩ := h.row.2 hn
    have hne : b ≠ g := hb _ e
    refine ⟨b, o, e, by simpa [World.setCell] using hg, fun k v hk => ?_⟩
    rw [World.cell?_setCell_other w _ _ u (fun e => hne (by injection e with e1; first | exact e1.symm | exact e1))]
    exact hc k v hk⟩, h.nil, h.len, h.cap⟩
theorem ParseR.zero {t : ByteArray} {w w' : World} {l c e : Int} (h : parseT t = (joZ, (l, c), e)) (hB : Below w.heap.size w w') : ParseR t w (.returned (.tuple #[.agg #[.string ⟨#[]⟩, .int .i64 0, .int .i64 0, .slice none 0 0], .agg #[.int .i64 l, .int .i64 c], .int .i64 e])) w' :=
  ⟨none, 0, by rw [h]; rfl, by rw [h]; exact joZ_row _, hB⟩
set_option maxRecDepth 100000 in
set_option maxHeartbeats 8000000 in
theorem rParse_any (t : ByteArray) (w : World) :
    Calls Tryz.prog 13 #[.string t] w (ParseR t w) := by
  have br : Blk ((w.alloc (.cells #[.string ⟨#[]⟩, .int .i64 0, .int .i64 0, .slice none 0 0] 24)).alloc (.cells #[.int .i64 0, .int .i64 0] 34)) w.heap.size 24 #[.string ⟨#[]⟩, .int .i64 0, .int .i64 0, .slice none 0 0] := (Blk.new w _ _).alloc _
  have bm : Blk ((w.alloc (.cells #[.string ⟨#[]⟩, .int .i64 0, .int .i64 0, .slice none 0 0] 24)).alloc (.cells #[.int .i64 0, .int .i64 0] 34)) (w.heap.size + 1) 34 #[.int .i64 0, .int .i64 0] := Blk.new' _ _ _ (by simp)
  have hB0 : Below w.heap.size w ((w.alloc (.cells #[.string ⟨#[]⟩, .int .i64 0, .int .i64 0, .slice none 0 0] 24)).alloc (.cells #[.int .i64 0, .int .i64 0] 34)) := (by repeat first | (with_reducible first | exact Below.refl _ _ | assumption) | ((with_reducible first | refine Below.setCell ?_ ?_ _ | refine Below.alloc ?_ ?_ _); rotate_left; · first | exact Nat.le_refl _ | (simp; done) | (simp; omega) | omega) | (with_reducible first | apply Below.drew | apply below_drewN') | refine Below.trans ?_ (Below.mono (by assumption) (by first | exact Nat.le_refl _ | (simp; done) | (simp; omega) | omega)) | exact Below.refl _ _ | assumption)
  by_cases hbig : 60000 < t.size
  · have HE : Hid (parseT t = (joZ, (0, 0), 8)) := Lib.hid (if_pos hbig)
    obtain ⟨r0, r1, r2, r3, rf⟩ := blk4 br
    have m0 : ((w.alloc (.cells #[.string ⟨#[]⟩, .int .i64 0, .int .i64 0, .slice none 0 0] 24)).alloc (.cells #[.int .i64 0, .int .i64 0] 34)).cell? ⟨w.heap.size + 1, 0, none⟩ = some (.int .i64 0) := bm.cell 0
    have m1 : ((w.alloc (.cells #[.string ⟨#[]⟩, .int .i64 0, .int .i64 0, .slice none 0 0] 24)).alloc (.cells #[.int .i64 0, .int .i64 0] 34)).cell? ⟨w.heap.size + 1, 1, none⟩ = some (.int .i64 0) := bm.cell 1
    have mf : ∀ i, ((w.alloc (.cells #[.string ⟨#[]⟩, .int .i64 0, .int .i64 0, .slice none 0 0] 24)).alloc (.cells #[.int .i64 0, .int .i64 0] 34)).frozen? ⟨w.heap.size + 1, i, none⟩ = false := bm.frozen
    go_enter Tryz.func13, Tryz.ntmps13
    go_wp2
    exact bodyPost_ret (v := .tuple #[.agg #[.string ⟨#[]⟩, .int .i64 0, .int .i64 0, .slice none 0 0], .agg #[.int .i64 0, .int .i64 0], .int .i64 8]) (by simp [results, Tryz.results13, go_sem, r0, r1, r2, r3, m0, m1]) rfl (ParseR.zero HE.out hB0)
  · have HL : Hid (parseT t = parseL 0 none (linesR t.data.toList)) := Lib.hid (if_neg hbig)
    have HLS : Hid (∀ l ∈ linesR t.data.toList, l.length ≤ 60050) := Lib.hid (fun l hl => by
      have h1 := (cut_small t).2 l (by unfold linesR at hl; split at hl; exact List.dropLast_subset _ hl; exact hl)
      omega)
    have HLC : Hid ((linesR t.data.toList).length ≤ 60002) := Lib.hid (by
      have h1 := (cut_small t).1
      have h2 : (linesR t.data.toList).length ≤ (cutL 10 t.data.toList).length := by unfold linesR; split <;> simp
      omega)
    by_cases hla : (cutL 10 t.data.toList).getLast (cutL_ne 10 _) = []
    · have HLA := Lib.hid hla
      clear hla
      go_enter Tryz.func13, Tryz.ntmps13
      go_wp2_with (go_at_call 44; refine (bCut_any t 10 (by omega) _).mono ?_; rintro e w2 ⟨v2, rfl, own2, hB2⟩; have lr := br.lt; have lm := bm.lt; replace br := br.gr hB2; replace bm := bm.gr hB2; replace hB0 := hB0.trans (hB2.mono (Below.size hB0)); obtain ⟨g, cap, m, rfl, hcap, hgb, hgl, hlast, hlen, hcells⟩ := cut_rowN own2 HLA.out; have hmc := HLC.out; rw [hlen] at hmc; have HB0 := Lib.hid hB0; have HCE := Lib.hid hcells; have HLE := Lib.hid hlen; have HBR := Lib.hid br; have HBM := Lib.hid bm; clear own2 hB2 hB0 hcells hlen lr lm br bm)
      have hrl : w.heap.size < w2.heap.size := HBR.out.lt
      have hml : w.heap.size + 1 < w2.heap.size := HBM.out.lt
      have hgl2 : w.heap.size ≠ g ∧ w.heap.size + 1 ≠ g := by simp at hgb; omega
      have hloop := rpLoop (linesR t.data.toList) (W := w2.alloc (.cells #[.string ⟨#[]⟩, .int .i64 0, .int .i64 0, .slice none 0 0] 24)) (rb := w.heap.size) (mb := w.heap.size + 1) (jb := w2.heap.size) (g := g) (cap := cap) (HBR.out.alloc _) (HBM.out.alloc _) (Blk.new w2 _ _) (by omega) (by omega) (by simp; omega) (by omega) (fun j hj => by rw [World.cell?_alloc_lt _ _ _ hgl]; exact HCE.out j hj) HLS.out
      unfold bodyOf at hloop
      conv at hloop in (Option.getD _ Code.skip) => whnf
      rw [HLE.out] at hloop
      refine hloop (by omega) _ ?_ ?_
      · clear hloop
        intro t9 t10 t11 t31 t32 t33 t34 t35 t36 t37 t38 t39 t40 t41 t42 t43 t44 t45 t46 t47 t48 t49 t50 t51 t52 t53 t54 t55 t56 t57 t58 t59 t60 t61 t62 t63 t64 t65 t66 t67 t68 t7 t8 l c e w' hP b1 b2 hB
        have HP : Hid (parseT t = (joZ, (l, c), e)) := Lib.hid (by rw [HL.out, hP.out])
        have hBw : Hid (Below w.heap.size w w') := Lib.hid ((HB0.out.alloc (by omega) _).trans (hB _ (by simp; omega) (Nat.le_refl _) (by omega) (by omega)))
        obtain ⟨r0, r1, r2, r3, rf⟩ := blk4 b1
        have m0 : w'.cell? ⟨w.heap.size + 1, 0, none⟩ = some (.int .i64 l) := b2.cell 0
        have m1 : w'.cell? ⟨w.heap.size + 1, 1, none⟩ = some (.int .i64 c) := b2.cell 1
        dsimp only
        simp only [Exit.inBlock, Exit.then]
        exact bodyPost_ret (v := .tuple #[.agg #[.string ⟨#[]⟩, .int .i64 0, .int .i64 0, .slice none 0 0], .agg #[.int .i64 l, .int .i64 c], .int .i64 e]) (by simp [results, Tryz.results13, go_sem, r0, r1, r2, r3, m0, m1]) rfl (ParseR.zero HP.out hBw.out)
      · clear hloop
        intro t9 t10 t11 t31 t32 t33 t34 t35 t36 t37 t38 t39 t40 t41 t42 t43 t44 t45 t46 t47 t48 t49 t50 t51 t52 t53 t54 t55 t56 t57 t58 t59 t60 t61 t62 t63 t64 t65 t66 t67 t68 t4 st A c w' hP bj hJ hA hK
        have br := (hK.same _ (by simp; omega) (by omega) (fun e => by cases e)).trans (HBR.out.alloc (.cells #[.string ⟨#[]⟩, .int .i64 0, .int .i64 0, .slice none 0 0] 24))
        have bm := (hK.same _ (by simp; omega) (by omega) (fun e => by cases e)).trans (HBM.out.alloc (.cells #[.string ⟨#[]⟩, .int .i64 0, .int .i64 0, .slice none 0 0] 24))
        replace br : Blk w' w.heap.size 24 #[.string ⟨#[]⟩, .int .i64 0, .int .i64 0, .slice none 0 0] := br
        replace bm : Blk w' (w.heap.size + 1) 34 #[.int .i64 0, .int .i64 0] := bm
        have hBw : Hid (Below w.heap.size w w') := Lib.hid ((HB0.out.alloc (by omega) _).trans (hK.below (by simp; omega) (by omega) (fun r e => by cases e)))
        have HA : Hid (∀ a, A = some a → a.block ≠ w.heap.size ∧ a.block ≠ w.heap.size + 1) := Lib.hid (fun a e => by have hh := hA a e; simp at hh; omega)
        have HK := Lib.hid hK; have HJ := Lib.hid hJ; have HBR2 := Lib.hid br; have HBM2 := Lib.hid bm
        have hzz : w2.heap.size < w'.heap.size := bj.lt
        obtain ⟨r0, r1, r2, r3, rf⟩ := blk4 br
        obtain ⟨j0, j1, j2, j3, jf⟩ := blk4 bj
        have m0 : w'.cell? ⟨w.heap.size + 1, 0, none⟩ = some (.int .i64 0) := bm.cell 0
        have m1 : w'.cell? ⟨w.heap.size + 1, 1, none⟩ = some (.int .i64 0) := bm.cell 1
        have mf : ∀ i, w'.frozen? ⟨w.heap.size + 1, i, none⟩ = false := bm.frozen
        clear hK hJ hA br bm HBR HBM
        cases st with
        | none =>
          have HP : Hid (parseT t = (joZ, (((m : Int) + 1), 1), 6)) := Lib.hid (by rw [HL.out, hP.out]; rfl)
          clear hP
          dsimp only
          go_wp2
          have zr := ((Blk.set4 HBR2.out (.string ⟨#[]⟩) (.int .i64 0) (.int .i64 0) (.slice none 0 0)).far (p := ⟨w.heap.size + 1, 0, none⟩) (by simp) (.int .i64 ((m : Int) + 1))).far (p := ⟨w.heap.size + 1, 1, none⟩) (by simp) (.int .i64 (1))
          have zm := ((HBM2.out.far4 (p := w.heap.size) (by simp) (.string ⟨#[]⟩) (.int .i64 0) (.int .i64 0) (.slice none 0 0)).set_ 0 (.int .i64 ((m : Int) + 1))).set_ 1 (.int .i64 (1))
          have zB := Lib.hid (((Below.set4 (u0 := .string ⟨#[]⟩) (u1 := .int .i64 0) (u2 := .int .i64 0) (u3 := .slice none 0 0) hBw.out (Nat.le_refl _)).setCell (p := ⟨w.heap.size + 1, 0, none⟩) (by simp) (.int .i64 ((m : Int) + 1))).setCell (p := ⟨w.heap.size + 1, 1, none⟩) (by simp) (.int .i64 (1)))
          clear r0 r1 r2 r3 m0 m1
          obtain ⟨r0, r1, r2, r3, _⟩ := blk4 zr
          obtain ⟨m0, m1⟩ := blk2c zm
          exact bodyPost_ret (v := .tuple #[.agg #[.string ⟨#[]⟩, .int .i64 0, .int .i64 0, .slice none 0 0], .agg #[.int .i64 ((m : Int) + 1), .int .i64 1], .int .i64 6]) (by simp [results, Tryz.results13, go_sem, r0, r1, r2, r3, m0, m1]) rfl (ParseR.zero HP.out zB.out)
        | some j =>
          have HP : Hid (parseT t = (j, (0, 0), 0)) := Lib.hid (by rw [HL.out, hP.out]; rfl)
          clear hP
          simp only [joS] at j0 j1 j2 j3
          dsimp only
          go_wp2
          have zr := ((Blk.set4 HBR2.out (.string j.nm) (.int .i64 j.thick) (.int .i64 j.zone) (.slice A j.fs.length c)).far (p := ⟨w.heap.size + 1, 0, none⟩) (by simp) (.int .i64 (0))).far (p := ⟨w.heap.size + 1, 1, none⟩) (by simp) (.int .i64 (0))
          have zm := ((HBM2.out.far4 (p := w.heap.size) (by simp) (.string j.nm) (.int .i64 j.thick) (.int .i64 j.zone) (.slice A j.fs.length c)).set_ 0 (.int .i64 (0))).set_ 1 (.int .i64 (0))
          have zB := Lib.hid (((Below.set4 (u0 := .string j.nm) (u1 := .int .i64 j.thick) (u2 := .int .i64 j.zone) (u3 := .slice A j.fs.length c) hBw.out (Nat.le_refl _)).setCell (p := ⟨w.heap.size + 1, 0, none⟩) (by simp) (.int .i64 (0))).setCell (p := ⟨w.heap.size + 1, 1, none⟩) (by simp) (.int .i64 (0)))
          clear r0 r1 r2 r3 m0 m1
          obtain ⟨r0, r1, r2, r3, _⟩ := blk4 zr
          obtain ⟨m0, m1⟩ := blk2c zm
          exact bodyPost_ret (v := .tuple #[.agg (joC j A c), .agg #[.int .i64 0, .int .i64 0], .int .i64 0]) (by simp [results, Tryz.results13, go_sem, r0, r1, r2, r3, m0, m1, joC]) rfl (⟨A, c, by rw [HP.out], by rw [HP.out]; exact ((HJ.out.far4 (fun a e => (HA.out a e).1) _ _ _ _).far1 (fun a e => (HA.out a e).2) _ _).far1 (fun a e => (HA.out a e).2) _ _, zB.out⟩)
    · have HLA := Lib.hid hla
      clear hla
      go_enter Tryz.func13, Tryz.ntmps13
      go_wp2_with (go_at_call 44; refine (bCut_any t 10 (by omega) _).mono ?_; rintro e w2 ⟨v2, rfl, own2, hB2⟩; have lr := br.lt; have lm := bm.lt; replace br := br.gr hB2; replace bm := bm.gr hB2; replace hB0 := hB0.trans (hB2.mono (Below.size hB0)); obtain ⟨g, cap, m, s, rfl, hcap, hgb, hgl, hlast, gs, hlen, hcells⟩ := cut_rowF own2 HLA.out; have hmc := HLC.out; rw [hlen] at hmc; have HB0 := Lib.hid hB0; have HCE := Lib.hid hcells; have HLE := Lib.hid hlen; have HBR := Lib.hid br; have HBM := Lib.hid bm; clear own2 hB2 hB0 hcells hlen lr lm br bm)
      have hrl : w.heap.size < w2.heap.size := HBR.out.lt
      have hml : w.heap.size + 1 < w2.heap.size := HBM.out.lt
      have hgl2 : w.heap.size ≠ g ∧ w.heap.size + 1 ≠ g := by simp at hgb; omega
      have hloop := rpLoop (linesR t.data.toList) (W := w2.alloc (.cells #[.string ⟨#[]⟩, .int .i64 0, .int .i64 0, .slice none 0 0] 24)) (rb := w.heap.size) (mb := w.heap.size + 1) (jb := w2.heap.size) (g := g) (cap := cap) (HBR.out.alloc _) (HBM.out.alloc _) (Blk.new w2 _ _) (by omega) (by omega) (by simp; omega) (by omega) (fun j hj => by rw [World.cell?_alloc_lt _ _ _ hgl]; exact HCE.out j hj) HLS.out
      unfold bodyOf at hloop
      conv at hloop in (Option.getD _ Code.skip) => whnf
      rw [HLE.out] at hloop
      refine hloop (by omega) _ ?_ ?_
      · clear hloop
        intro t9 t10 t11 t31 t32 t33 t34 t35 t36 t37 t38 t39 t40 t41 t42 t43 t44 t45 t46 t47 t48 t49 t50 t51 t52 t53 t54 t55 t56 t57 t58 t59 t60 t61 t62 t63 t64 t65 t66 t67 t68 t7 t8 l c e w' hP b1 b2 hB
        have HP : Hid (parseT t = (joZ, (l, c), e)) := Lib.hid (by rw [HL.out, hP.out])
        have hBw : Hid (Below w.heap.size w w') := Lib.hid ((HB0.out.alloc (by omega) _).trans (hB _ (by simp; omega) (Nat.le_refl _) (by omega) (by omega)))
        obtain ⟨r0, r1, r2, r3, rf⟩ := blk4 b1
        have m0 : w'.cell? ⟨w.heap.size + 1, 0, none⟩ = some (.int .i64 l) := b2.cell 0
        have m1 : w'.cell? ⟨w.heap.size + 1, 1, none⟩ = some (.int .i64 c) := b2.cell 1
        dsimp only
        simp only [Exit.inBlock, Exit.then]
        exact bodyPost_ret (v := .tuple #[.agg #[.string ⟨#[]⟩, .int .i64 0, .int .i64 0, .slice none 0 0], .agg #[.int .i64 l, .int .i64 c], .int .i64 e]) (by simp [results, Tryz.results13, go_sem, r0, r1, r2, r3, m0, m1]) rfl (ParseR.zero HP.out hBw.out)
      · clear hloop
        intro t9 t10 t11 t31 t32 t33 t34 t35 t36 t37 t38 t39 t40 t41 t42 t43 t44 t45 t46 t47 t48 t49 t50 t51 t52 t53 t54 t55 t56 t57 t58 t59 t60 t61 t62 t63 t64 t65 t66 t67 t68 t4 st A c w' hP bj hJ hA hK
        have br := (hK.same _ (by simp; omega) (by omega) (fun e => by cases e)).trans (HBR.out.alloc (.cells #[.string ⟨#[]⟩, .int .i64 0, .int .i64 0, .slice none 0 0] 24))
        have bm := (hK.same _ (by simp; omega) (by omega) (fun e => by cases e)).trans (HBM.out.alloc (.cells #[.string ⟨#[]⟩, .int .i64 0, .int .i64 0, .slice none 0 0] 24))
        replace br : Blk w' w.heap.size 24 #[.string ⟨#[]⟩, .int .i64 0, .int .i64 0, .slice none 0 0] := br
        replace bm : Blk w' (w.heap.size + 1) 34 #[.int .i64 0, .int .i64 0] := bm
        have hBw : Hid (Below w.heap.size w w') := Lib.hid ((HB0.out.alloc (by omega) _).trans (hK.below (by simp; omega) (by omega) (fun r e => by cases e)))
        have HA : Hid (∀ a, A = some a → a.block ≠ w.heap.size ∧ a.block ≠ w.heap.size + 1) := Lib.hid (fun a e => by have hh := hA a e; simp at hh; omega)
        have HK := Lib.hid hK; have HJ := Lib.hid hJ; have HBR2 := Lib.hid br; have HBM2 := Lib.hid bm
        have hzz : w2.heap.size < w'.heap.size := bj.lt
        obtain ⟨r0, r1, r2, r3, rf⟩ := blk4 br
        obtain ⟨j0, j1, j2, j3, jf⟩ := blk4 bj
        have m0 : w'.cell? ⟨w.heap.size + 1, 0, none⟩ = some (.int .i64 0) := bm.cell 0
        have m1 : w'.cell? ⟨w.heap.size + 1, 1, none⟩ = some (.int .i64 0) := bm.cell 1
        have mf : ∀ i, w'.frozen? ⟨w.heap.size + 1, i, none⟩ = false := bm.frozen
        clear hK hJ hA br bm HBR HBM
        cases st with
        | none =>
          have HP : Hid (parseT t = (joZ, (((m : Int) + 1 + 1), 1), 6)) := Lib.hid (by rw [HL.out, hP.out]; rfl)
          clear hP
          dsimp only
          go_wp2
          have zr := ((Blk.set4 HBR2.out (.string ⟨#[]⟩) (.int .i64 0) (.int .i64 0) (.slice none 0 0)).far (p := ⟨w.heap.size + 1, 0, none⟩) (by simp) (.int .i64 ((m : Int) + 1 + 1))).far (p := ⟨w.heap.size + 1, 1, none⟩) (by simp) (.int .i64 (1))
          have zm := ((HBM2.out.far4 (p := w.heap.size) (by simp) (.string ⟨#[]⟩) (.int .i64 0) (.int .i64 0) (.slice none 0 0)).set_ 0 (.int .i64 ((m : Int) + 1 + 1))).set_ 1 (.int .i64 (1))
          have zB := Lib.hid (((Below.set4 (u0 := .string ⟨#[]⟩) (u1 := .int .i64 0) (u2 := .int .i64 0) (u3 := .slice none 0 0) hBw.out (Nat.le_refl _)).setCell (p := ⟨w.heap.size + 1, 0, none⟩) (by simp) (.int .i64 ((m : Int) + 1 + 1))).setCell (p := ⟨w.heap.size + 1, 1, none⟩) (by simp) (.int .i64 (1)))
          clear r0 r1 r2 r3 m0 m1
          obtain ⟨r0, r1, r2, r3, _⟩ := blk4 zr
          obtain ⟨m0, m1⟩ := blk2c zm
          exact bodyPost_ret (v := .tuple #[.agg #[.string ⟨#[]⟩, .int .i64 0, .int .i64 0, .slice none 0 0], .agg #[.int .i64 ((m : Int) + 1 + 1), .int .i64 1], .int .i64 6]) (by simp [results, Tryz.results13, go_sem, r0, r1, r2, r3, m0, m1]) rfl (ParseR.zero HP.out zB.out)
        | some j =>
          have HP : Hid (parseT t = (j, (0, 0), 0)) := Lib.hid (by rw [HL.out, hP.out]; rfl)
          clear hP
          simp only [joS] at j0 j1 j2 j3
          dsimp only
          go_wp2
          have zr := ((Blk.set4 HBR2.out (.string j.nm) (.int .i64 j.thick) (.int .i64 j.zone) (.slice A j.fs.length c)).far (p := ⟨w.heap.size + 1, 0, none⟩) (by simp) (.int .i64 (0))).far (p := ⟨w.heap.size + 1, 1, none⟩) (by simp) (.int .i64 (0))
          have zm := ((HBM2.out.far4 (p := w.heap.size) (by simp) (.string j.nm) (.int .i64 j.thick) (.int .i64 j.zone) (.slice A j.fs.length c)).set_ 0 (.int .i64 (0))).set_ 1 (.int .i64 (0))
          have zB := Lib.hid (((Below.set4 (u0 := .string j.nm) (u1 := .int .i64 j.thick) (u2 := .int .i64 j.zone) (u3 := .slice A j.fs.length c) hBw.out (Nat.le_refl _)).setCell (p := ⟨w.heap.size + 1, 0, none⟩) (by simp) (.int .i64 (0))).setCell (p := ⟨w.heap.size + 1, 1, none⟩) (by simp) (.int .i64 (0)))
          clear r0 r1 r2 r3 m0 m1
          obtain ⟨r0, r1, r2, r3, _⟩ := blk4 zr
          obtain ⟨m0, m1⟩ := blk2c zm
          exact bodyPost_ret (v := .tuple #[.agg (joC j A c), .agg #[.int .i64 0, .int .i64 0], .int .i64 0]) (by simp [results, Tryz.results13, go_sem, r0, r1, r2, r3, m0, m1, joC]) rfl (⟨A, c, by rw [HP.out], by rw [HP.out]; exact ((HJ.out.far4 (fun a e => (HA.out a e).1) _ _ _ _).far1 (fun a e => (HA.out a e).2) _ _).far1 (fun a e => (HA.out a e).2) _ _, zB.out⟩)
end Go.Proofs.YtaekcfancfoccaaGreatDoor
