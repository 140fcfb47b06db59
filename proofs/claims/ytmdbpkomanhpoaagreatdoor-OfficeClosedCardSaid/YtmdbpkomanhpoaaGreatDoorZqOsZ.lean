/- Contract: whether a set-up is slight. -/
import Derived.Test.YtmdbpkomanhpoaaGreatDoorZqOsY
namespace Go.Proofs.YtmdbpkomanhpoaaGreatDoor
open Go.RowKit

/-- What is so of slight set-ups. -/
structure SlOk (s : Se) : Prop where
  pe : s.pe.length ≤ 22
  nm : s.cd.nm.size ≤ 20
  ex : s.cd.ex.length ≤ 12
  rows : s.cd.rows.length ≤ 12
  st : s.st.length ≤ 12
  lv : s.lv.length ≤ 22
  pn : ∀ p ∈ s.pe, p.nm.size ≤ 20
  sn : ∀ p ∈ s.st, p.nm.size ≤ 20 ∧ p.needs.length ≤ 12

/-- A Bool that is true for slight set-ups alone. -/
def SlR (s : Se) (e : Ending) : Prop := ∃ b : Bool, e = .returned (.bool b) ∧ (b = true → SlOk s)
theorem SlR.no (s : Se) : SlR s (.returned (.bool false)) := ⟨false, rfl, fun h => by cases h⟩
theorem SlR.yes {s : Se} (h : SlOk s) : SlR s (.returned (.bool true)) := ⟨true, rfl, fun _ => h⟩

set_option maxRecDepth 100000 in
set_option maxHeartbeats 4000000 in
theorem slight_any (s : Se) (m : Me) (B : Nat) (w : World) (hp : Row w B 2 m.pA s.pe.length (rowsC peF s.pe)) (hs : Row w B 4 m.sA s.st.length (rowsC stF s.st)) (hB : B ≤ w.heap.size) :
    Calls Tryz.prog 19 #[.agg (seC s m)] w fun e w' => SlR s e ∧ Below w.heap.size w w' := by
  obtain ⟨pe, cd, thick, st, tk, gf, gt, lv⟩ := s
  obtain ⟨cnm, cex, crows⟩ := cd
  obtain ⟨pA, pc, eA, ec, rA, rc, sA, sc, lA, lc⟩ := m
  dsimp only at *
  have HP := Lib.hid hp; have HS := Lib.hid hs; clear hp hs
  have b0 := Blk.new w 33 (seC ⟨pe, ⟨cnm, cex, crows⟩, thick, st, tk, gf, gt, lv⟩ ⟨pA, pc, eA, ec, rA, rc, sA, sc, lA, lc⟩)
  have hB0 : Below w.heap.size w (w.alloc (.cells (seC ⟨pe, ⟨cnm, cex, crows⟩, thick, st, tk, gf, gt, lv⟩ ⟨pA, pc, eA, ec, rA, rc, sA, sc, lA, lc⟩) 33)) := (by repeat (first | (with_reducible exact Below.refl _ _) | (with_reducible assumption) | ((with_reducible refine Below.setCell ?_ ?_ _); rotate_left; · (first | exact Nat.le_refl _ | (simp; done) | (simp; omega) | omega)) | ((with_reducible refine Below.alloc ?_ ?_ _); rotate_left; · (first | exact Nat.le_refl _ | (simp; done) | (simp; omega) | omega)) | (with_reducible apply Below.drew) | (with_reducible apply below_drewN') | (refine Below.trans ?_ (Below.mono (by assumption) (by first | exact Nat.le_refl _ | (simp; done) | (simp; omega) | omega))) | exact Below.refl _ _ | assumption))
  by_cases hok : (pe.length ≤ 6 ∨ (21 ≤ pe.length ∧ pe.length ≤ 22)) ∧ cnm.size ≤ 20 ∧ cex.length ≤ 12 ∧ crows.length ≤ 12 ∧ st.length ≤ 12 ∧ lv.length ≤ 22
  · obtain ⟨h1, h2, h3, h4, h5, h6⟩ := hok
    have i2 : (cnm.size : Int) ≤ 20 := by omega
    have i3 : (cex.length : Int) ≤ 12 := by omega
    have i4 : (crows.length : Int) ≤ 12 := by omega
    have i5 : (st.length : Int) ≤ 12 := by omega
    have i6 : (lv.length : Int) ≤ 22 := by omega
    have n2 : decide ((20 : Int) < (cnm.size : Int)) = false := by simp; omega
    have n3 : decide ((12 : Int) < (cex.length : Int)) = false := by simp; omega
    have n4 : decide ((12 : Int) < (crows.length : Int)) = false := by simp; omega
    have n5 : decide ((12 : Int) < (st.length : Int)) = false := by simp; omega
    have n6 : decide ((22 : Int) < (lv.length : Int)) = false := by simp; omega
    have HL : Hid (pe.length ≤ 22 ∧ cnm.size ≤ 20 ∧ cex.length ≤ 12 ∧ crows.length ≤ 12 ∧ st.length ≤ 12 ∧ lv.length ≤ 22) := Lib.hid ⟨by omega, h2, h3, h4, h5, h6⟩
    have hpl : ∃ x y z : Bool, decide ((6 : Int) < (pe.length : Int)) = x ∧ decide ((pe.length : Int) ≤ 20) = y ∧ decide ((22 : Int) < (pe.length : Int)) = z ∧ (x = true → y = false) ∧ z = false := ⟨_, _, _, rfl, rfl, rfl, fun h => by simp at h ⊢; omega, by simp; omega⟩
    clear h2 h3 h4 h5 h6
    rcases h1 with h1 | ⟨h1, h1'⟩
    · have i1 : (pe.length : Int) ≤ 6 := by omega
      have n1 : decide ((6 : Int) < (pe.length : Int)) = false := by simp; omega
      have n1' : decide ((22 : Int) < (pe.length : Int)) = false := by simp; omega
      clear hpl
      go_enter Tryz.func19, Tryz.ntmps19
      go_wp2
      go_loopw [3] (fun i wr => ∃ k : Nat, k ≤ pe.length ∧ i = .int .i64 k ∧ Hid (∀ j (h : j < pe.length), j < k → pe[j].nm.size ≤ 20) ∧ Below (w.heap.size + 1) (w.alloc (.cells (seC ⟨pe, ⟨cnm, cex, crows⟩, thick, st, tk, gf, gt, lv⟩ ⟨pA, pc, eA, ec, rA, rc, sA, sc, lA, lc⟩) 33)) wr) (fun i _ => pe.length - (intOf i).toNat)
      case atStart => exact ⟨0, Nat.zero_le _, rfl, Lib.hid (fun _ _ h => absurd h (by omega)), (by repeat (first | (with_reducible exact Below.refl _ _) | (with_reducible assumption) | ((with_reducible refine Below.setCell ?_ ?_ _); rotate_left; · (first | exact Nat.le_refl _ | (simp; done) | (simp; omega) | omega)) | ((with_reducible refine Below.alloc ?_ ?_ _); rotate_left; · (first | exact Nat.le_refl _ | (simp; done) | (simp; omega) | omega)) | (with_reducible apply Below.drew) | (with_reducible apply below_drewN') | (refine Below.trans ?_ (Below.mono (by assumption) (by first | exact Nat.le_refl _ | (simp; done) | (simp; omega) | omega))) | exact Below.refl _ _ | assumption))⟩
      case round =>
        obtain ⟨k, hk, rfl, HI, hBr⟩ := hrel
        have b1 := b0.below hBr (by omega)
        have hBw : Below w.heap.size w wr := hB0.trans (hBr.mono (by omega))
        obtain ⟨d0, d1, d2, d3, d4, d5, d6, d7, d8, d9, d10, d11, d12, df⟩ := blk13 b1
        by_cases hlt : k < pe.length
        · obtain ⟨g, o, hA, hg, c0, c1⟩ := (HP.out.below hBw hB).at2 peF_len hlt rfl
          subst hA
          have HNX : Hid (pe[k].nm.size ≤ 20 → ∀ j (h : j < pe.length), j < k + 1 → pe[j].nm.size ≤ 20) := Lib.hid fun h j hj hjk => by
            by_cases e : j = k
            · subst e; exact h
            · exact HI.out j hj (by omega)
          clear HI
          generalize pe[k] = p at *
          by_cases hq : p.nm.size ≤ 20
          · have HX := Lib.hid (HNX.out hq)
            have hq1 : (p.nm.size : Int) ≤ 20 := by omega
            have hq2 : decide ((20 : Int) < (p.nm.size : Int)) = false := by simp; omega
            go_wp2
            refine ⟨⟨k + 1, by omega, by go_num, HX, hBr⟩, by simp [intOf]; omega⟩
          · have hq1 : (20 : Int) < (p.nm.size : Int) := by omega
            go_wp2
            go_ret
            exact ⟨SlR.no _, hBw⟩
        · obtain rfl : k = pe.length := by omega
          have HPE : Hid (∀ p ∈ pe, p.nm.size ≤ 20) := Lib.hid fun p hp => by
            obtain ⟨j, hj, rfl⟩ := List.getElem_of_mem hp
            exact HI.out j hj hj
          clear HI
          have lb := b1.lt
          go_wp2
          go_loopw [4] (fun i wq => ∃ k : Nat, k ≤ st.length ∧ i = .int .i64 k ∧ Hid (∀ j (h : j < st.length), j < k → st[j].nm.size ≤ 20 ∧ st[j].needs.length ≤ 12) ∧ Below (w.heap.size + 1) (w.alloc (.cells (seC ⟨pe, ⟨cnm, cex, crows⟩, thick, st, tk, gf, gt, lv⟩ ⟨pA, pc, eA, ec, rA, rc, sA, sc, lA, lc⟩) 33)) wq) (fun i _ => st.length - (intOf i).toNat)
          case atStart => exact ⟨0, Nat.zero_le _, rfl, Lib.hid (fun _ _ h => absurd h (by omega)), hBr⟩
          case round =>
            clear hBr hBw hlt b1 lb d0 d1 d2 d3 d4 d5 d6 d7 d8 d9 d10 d11 d12 df
            obtain ⟨k, hk, rfl, HI, hBr⟩ := hrel
            have b1 := b0.below hBr (by omega)
            have hBw : Below w.heap.size w wr := hB0.trans (hBr.mono (by omega))
            obtain ⟨d0, d1, d2, d3, d4, d5, d6, d7, d8, d9, d10, d11, d12, df⟩ := blk13 b1
            by_cases hlt : k < st.length
            · obtain ⟨g, o, hA, hg, c0, c1, c2, c3⟩ := (HS.out.below hBw hB).at4 stF_len hlt rfl
              subst hA
              have HNX : Hid (st[k].nm.size ≤ 20 → st[k].needs.length ≤ 12 → ∀ j (h : j < st.length), j < k + 1 → st[j].nm.size ≤ 20 ∧ st[j].needs.length ≤ 12) := Lib.hid fun h h' j hj hjk => by
                by_cases e : j = k
                · subst e; exact ⟨h, h'⟩
                · exact HI.out j hj (by omega)
              clear HI
              generalize st[k] = p at *
              by_cases hq : p.nm.size ≤ 20
              · have hq1 : (p.nm.size : Int) ≤ 20 := by omega
                have hq2 : decide ((20 : Int) < (p.nm.size : Int)) = false := by simp; omega
                by_cases hr : p.needs.length ≤ 12
                · have HX := Lib.hid (HNX.out hq hr)
                  have hr1 : (p.needs.length : Int) ≤ 12 := by omega
                  have hr2 : decide ((12 : Int) < (p.needs.length : Int)) = false := by simp; omega
                  go_wp2
                  refine ⟨⟨k + 1, by omega, by go_num, HX, hBr⟩, by simp [intOf]; omega⟩
                · have hr1 : (12 : Int) < (p.needs.length : Int) := by omega
                  have hr2 : decide ((12 : Int) < (p.needs.length : Int)) = true := by simp; omega
                  go_wp2
                  go_ret
                  exact ⟨SlR.no _, hBw⟩
              · have hq1 : (20 : Int) < (p.nm.size : Int) := by omega
                have hq2 : decide ((20 : Int) < (p.nm.size : Int)) = true := by simp; omega
                go_wp2
                go_ret
                exact ⟨SlR.no _, hBw⟩
            · obtain rfl : k = st.length := by omega
              have HX : SlOk (⟨pe, ⟨cnm, cex, crows⟩, thick, st, tk, gf, gt, lv⟩ : Se) := by
                obtain ⟨h1, h2, h3, h4, h5, h6⟩ := HL.out
                refine ⟨h1, h2, h3, h4, h5, h6, HPE.out, fun p hp => ?_⟩
                obtain ⟨j, hj, rfl⟩ := List.getElem_of_mem hp
                exact HI.out j hj hj
              have HX := Lib.hid HX
              go_wp2
              go_ret
              exact ⟨SlR.yes HX.out, hBw⟩
    · have i1 : (21 : Int) ≤ (pe.length : Int) := by omega
      have i1' : (pe.length : Int) ≤ 22 := by omega
      have n1 : decide ((6 : Int) < (pe.length : Int)) = true := by simp; omega
      have n1'' : decide ((pe.length : Int) ≤ 20) = false := by simp; omega
      have n1' : decide ((22 : Int) < (pe.length : Int)) = false := by simp; omega
      clear hpl
      go_enter Tryz.func19, Tryz.ntmps19
      go_wp2
      go_loopw [3] (fun i wr => ∃ k : Nat, k ≤ pe.length ∧ i = .int .i64 k ∧ Hid (∀ j (h : j < pe.length), j < k → pe[j].nm.size ≤ 20) ∧ Below (w.heap.size + 1) (w.alloc (.cells (seC ⟨pe, ⟨cnm, cex, crows⟩, thick, st, tk, gf, gt, lv⟩ ⟨pA, pc, eA, ec, rA, rc, sA, sc, lA, lc⟩) 33)) wr) (fun i _ => pe.length - (intOf i).toNat)
      case atStart => exact ⟨0, Nat.zero_le _, rfl, Lib.hid (fun _ _ h => absurd h (by omega)), (by repeat (first | (with_reducible exact Below.refl _ _) | (with_reducible assumption) | ((with_reducible refine Below.setCell ?_ ?_ _); rotate_left; · (first | exact Nat.le_refl _ | (simp; done) | (simp; omega) | omega)) | ((with_reducible refine Below.alloc ?_ ?_ _); rotate_left; · (first | exact Nat.le_refl _ | (simp; done) | (simp; omega) | omega)) | (with_reducible apply Below.drew) | (with_reducible apply below_drewN') | (refine Below.trans ?_ (Below.mono (by assumption) (by first | exact Nat.le_refl _ | (simp; done) | (simp; omega) | omega))) | exact Below.refl _ _ | assumption))⟩
      case round =>
        obtain ⟨k, hk, rfl, HI, hBr⟩ := hrel
        have b1 := b0.below hBr (by omega)
        have hBw : Below w.heap.size w wr := hB0.trans (hBr.mono (by omega))
        obtain ⟨d0, d1, d2, d3, d4, d5, d6, d7, d8, d9, d10, d11, d12, df⟩ := blk13 b1
        by_cases hlt : k < pe.length
        · obtain ⟨g, o, hA, hg, c0, c1⟩ := (HP.out.below hBw hB).at2 peF_len hlt rfl
          subst hA
          have HNX : Hid (pe[k].nm.size ≤ 20 → ∀ j (h : j < pe.length), j < k + 1 → pe[j].nm.size ≤ 20) := Lib.hid fun h j hj hjk => by
            by_cases e : j = k
            · subst e; exact h
            · exact HI.out j hj (by omega)
          clear HI
          generalize pe[k] = p at *
          by_cases hq : p.nm.size ≤ 20
          · have HX := Lib.hid (HNX.out hq)
            have hq1 : (p.nm.size : Int) ≤ 20 := by omega
            have hq2 : decide ((20 : Int) < (p.nm.size : Int)) = false := by simp; omega
            go_wp2
            refine ⟨⟨k + 1, by omega, by go_num, HX, hBr⟩, by simp [intOf]; omega⟩
          · have hq1 : (20 : Int) < (p.nm.size : Int) := by omega
            go_wp2
            go_ret
            exact ⟨SlR.no _, hBw⟩
        · obtain rfl : k = pe.length := by omega
          have HPE : Hid (∀ p ∈ pe, p.nm.size ≤ 20) := Lib.hid fun p hp => by
            obtain ⟨j, hj, rfl⟩ := List.getElem_of_mem hp
            exact HI.out j hj hj
          clear HI
          have lb := b1.lt
          go_wp2
          go_loopw [4] (fun i wq => ∃ k : Nat, k ≤ st.length ∧ i = .int .i64 k ∧ Hid (∀ j (h : j < st.length), j < k → st[j].nm.size ≤ 20 ∧ st[j].needs.length ≤ 12) ∧ Below (w.heap.size + 1) (w.alloc (.cells (seC ⟨pe, ⟨cnm, cex, crows⟩, thick, st, tk, gf, gt, lv⟩ ⟨pA, pc, eA, ec, rA, rc, sA, sc, lA, lc⟩) 33)) wq) (fun i _ => st.length - (intOf i).toNat)
          case atStart => exact ⟨0, Nat.zero_le _, rfl, Lib.hid (fun _ _ h => absurd h (by omega)), hBr⟩
          case round =>
            clear hBr hBw hlt b1 lb d0 d1 d2 d3 d4 d5 d6 d7 d8 d9 d10 d11 d12 df
            obtain ⟨k, hk, rfl, HI, hBr⟩ := hrel
            have b1 := b0.below hBr (by omega)
            have hBw : Below w.heap.size w wr := hB0.trans (hBr.mono (by omega))
            obtain ⟨d0, d1, d2, d3, d4, d5, d6, d7, d8, d9, d10, d11, d12, df⟩ := blk13 b1
            by_cases hlt : k < st.length
            · obtain ⟨g, o, hA, hg, c0, c1, c2, c3⟩ := (HS.out.below hBw hB).at4 stF_len hlt rfl
              subst hA
              have HNX : Hid (st[k].nm.size ≤ 20 → st[k].needs.length ≤ 12 → ∀ j (h : j < st.length), j < k + 1 → st[j].nm.size ≤ 20 ∧ st[j].needs.length ≤ 12) := Lib.hid fun h h' j hj hjk => by
                by_cases e : j = k
                · subst e; exact ⟨h, h'⟩
                · exact HI.out j hj (by omega)
              clear HI
              generalize st[k] = p at *
              by_cases hq : p.nm.size ≤ 20
              · have hq1 : (p.nm.size : Int) ≤ 20 := by omega
                have hq2 : decide ((20 : Int) < (p.nm.size : Int)) = false := by simp; omega
                by_cases hr : p.needs.length ≤ 12
                · have HX := Lib.hid (HNX.out hq hr)
                  have hr1 : (p.needs.length : Int) ≤ 12 := by omega
                  have hr2 : decide ((12 : Int) < (p.needs.length : Int)) = false := by simp; omega
                  go_wp2
                  refine ⟨⟨k + 1, by omega, by go_num, HX, hBr⟩, by simp [intOf]; omega⟩
                · have hr1 : (12 : Int) < (p.needs.length : Int) := by omega
                  have hr2 : decide ((12 : Int) < (p.needs.length : Int)) = true := by simp; omega
                  go_wp2
                  go_ret
                  exact ⟨SlR.no _, hBw⟩
              · have hq1 : (20 : Int) < (p.nm.size : Int) := by omega
                have hq2 : decide ((20 : Int) < (p.nm.size : Int)) = true := by simp; omega
                go_wp2
                go_ret
                exact ⟨SlR.no _, hBw⟩
            · obtain rfl : k = st.length := by omega
              have HX : SlOk (⟨pe, ⟨cnm, cex, crows⟩, thick, st, tk, gf, gt, lv⟩ : Se) := by
                obtain ⟨h1, h2, h3, h4, h5, h6⟩ := HL.out
                refine ⟨h1, h2, h3, h4, h5, h6, HPE.out, fun p hp => ?_⟩
                obtain ⟨j, hj, rfl⟩ := List.getElem_of_mem hp
                exact HI.out j hj hj
              have HX := Lib.hid HX
              go_wp2
              go_ret
              exact ⟨SlR.yes HX.out, hBw⟩
  · go_enter Tryz.func19, Tryz.ntmps19
    go_wp2
    all_goals first
      | (go_ret; exact ⟨SlR.no _, hB0⟩)
      | (exfalso; refine hok ⟨?_, ?_, ?_, ?_, ?_, ?_⟩ <;> omega)
end Go.Proofs.YtmdbpkomanhpoaaGreatDoor
