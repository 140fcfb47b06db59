/- Contract: the reference's error of a mark. Contracts: the law's bounds of lists of marks; the reference's errors of marks. -/
import Derived.Test.YtidgeagpgllkeaaGreatZdFeD
import Derived.Test.YtidgeagpgllkeaaGreatZdFgC
import Derived.Test.YtidgeagpgllkeaaGreatZdFcD
namespace Go.Proofs.YtidgeagpgllkeaaGreat
open Go.RowKit

theorem index_fst (a b c d : Int) (W : World) : (Instr.index 191 (.agg #[.int .i64 a, .int .i64 b, .int .i64 c, .int .i64 d]) (.int .i64 0)).run Tryz.prog W = .ok (.agg #[.int .i64 a, .int .i64 b]) W := by kernel_rfl
theorem index_snd (a b c d : Int) (W : World) : (Instr.index 191 (.agg #[.int .i64 a, .int .i64 b, .int .i64 c, .int .i64 d]) (.int .i64 1)).run Tryz.prog W = .ok (.agg #[.int .i64 c, .int .i64 d]) W := by kernel_rfl

set_option maxRecDepth 100000 in
set_option maxHeartbeats 1000000 in
theorem refMarkErr_any (m : Mk) (hs : m.nm.size ≤ 1000000000000) (w : World) : Calls Tryz.prog 67 #[.agg (mkC m)] w fun e w' => e = .returned (.int .i64 (markE m)) ∧ Below w.heap.size w w' := by
  have HM : Hid (markE m = if nameB m.nm then (if wi m.al (-1000000) 1000000 && wi m.ah (-1000000) 1000000 then (if wi m.dl (-1000000) 1000000 && wi m.dh (-1000000) 1000000 then (if m.al ≤ m.ah ∧ m.dl ≤ m.dh then (if wi m.lv 0 1000000000 then 0 else 2) else 9) else 2) else 2) else 4) := Lib.hid (by
    unfold markE endsB ordB levelE
    cases nameB m.nm <;> cases wi m.al (-1000000) 1000000 <;> cases wi m.ah (-1000000) 1000000 <;> cases wi m.dl (-1000000) 1000000 <;> cases wi m.dh (-1000000) 1000000 <;> by_cases h1 : m.al ≤ m.ah <;> by_cases h2 : m.dl ≤ m.dh <;> simp [firstE, unlessE, h1, h2])
  have b1 := Blk.new w 79 (mkC m)
  have hBB : Below w.heap.size w (w.alloc (.cells (mkC m) 79)) := (by repeat (first | (with_reducible exact Below.refl _ _) | (with_reducible assumption) | ((with_reducible refine Below.setCell ?_ ?_ _); rotate_left; · (first | exact Nat.le_refl _ | (simp; done) | (simp; omega) | omega)) | ((with_reducible refine Below.alloc ?_ ?_ _); rotate_left; · (first | exact Nat.le_refl _ | (simp; done) | (simp; omega) | omega)) | (with_reducible apply Below.drew) | (with_reducible apply below_drewN') | (refine Below.trans ?_ (Below.mono (by assumption) (by first | exact Nat.le_refl _ | (simp; done) | (simp; omega) | omega))) | exact Below.refl _ _ | assumption))
  obtain ⟨NB, hNB⟩ : ∃ b, nameB m.nm = b := ⟨_, rfl⟩
  have HNB := Lib.hid hNB
  rw [hNB] at HM
  clear hNB
  go_enter Tryz.func67, Tryz.ntmps67
  go_upto_region 1 with fail
  obtain ⟨W, hW⟩ : ∃ W, w.alloc (.cells (mkC m) 79) = W := ⟨_, rfl⟩
  rw [hW] at b1 hBB
  try rw [hW]
  clear hW
  have l_b1 := b1.lt
  obtain ⟨d0, d1, d2, d3, d4, d5, f1⟩ := blk6 b1
  cases NB
  · go_wp2_with (go_at_call 128; refine (bIsName_any _ _ hs).mono ?_; rw [HNB.out]; rintro e w1 ⟨rfl, rfl⟩)
    go_ret
    exact ⟨by rw [HM.out]; rfl, hBB⟩
  · go_wp2_with (go_at_call 128; refine (bIsName_any _ _ hs).mono ?_; rw [HNB.out]; rintro e w1 ⟨rfl, rfl⟩)
    clear d0 d1 d2 d3 d4 d5 f1
    go_loopw [3] (fun i wr => ∃ k : Nat, k ≤ 2 ∧ i = .int .i64 k ∧ Hid ((0 < k → (wi m.al (-1000000) 1000000 && wi m.ah (-1000000) 1000000) = true) ∧ (1 < k → (wi m.dl (-1000000) 1000000 && wi m.dh (-1000000) 1000000) = true)) ∧ Blk wr w.heap.size 79 (mkC m) ∧ Below w.heap.size w wr) (fun i _ => 2 - (intOf i).toNat)
    case atStart => exact ⟨0, by omega, rfl, Lib.hid (by omega), b1, hBB⟩
    case round =>
      obtain ⟨k, hk, rfl, HI, b1', hBB'⟩ := hrel
      clear b1 hBB l_b1
      have hz := b1'.lt
      obtain ⟨d0, d1, d2, d3, d4, d5, f1⟩ := blk6 b1'
      rcases (by omega : k = 0 ∨ k = 1 ∨ k = 2) with rfl | rfl | rfl
      · have hx := index_fst m.al m.ah m.dl m.dh
        have c0 := (Blk.new wr 48 #[.int .i64 m.al, .int .i64 m.ah]).cell 0
        have c1 := (Blk.new wr 48 #[.int .i64 m.al, .int .i64 m.ah]).cell 1
        have b2 := b1'.alloc (.cells #[.int .i64 m.al, .int .i64 m.ah] 48)
        cases hp : wi m.al (-1000000) 1000000 <;> cases hq : wi m.ah (-1000000) 1000000
        all_goals
          have HP := Lib.hid hp
          have HQ := Lib.hid hq
          rw [hp, hq] at HM
          clear hp hq
          go_wp2_with (go_at_call 27; refine (bWithin_any _ _ _ _).mono ?_; (first | rw [HP.out] | rw [HQ.out]); rintro e w1 ⟨rfl, rfl⟩)
        all_goals
          first
            | (go_ret; exact ⟨by rw [HM.out]; rfl, hBB'.alloc (Below.size hBB') _⟩)
            | (refine ⟨⟨1, by omega, rfl, Lib.hid ⟨fun _ => (by first | trivial | (rw [HP.out, HQ.out]; rfl) | rfl), by omega⟩, b2, hBB'.alloc (Below.size hBB') _⟩, by simp [intOf]⟩)
      · have hx := index_snd m.al m.ah m.dl m.dh
        have c0 := (Blk.new wr 48 #[.int .i64 m.dl, .int .i64 m.dh]).cell 0
        have c1 := (Blk.new wr 48 #[.int .i64 m.dl, .int .i64 m.dh]).cell 1
        have b2 := b1'.alloc (.cells #[.int .i64 m.dl, .int .i64 m.dh] 48)
        have h1 := HI.out.1 (by omega)
        rw [h1] at HM
        have H1 := Lib.hid h1
        clear h1
        cases hp : wi m.dl (-1000000) 1000000 <;> cases hq : wi m.dh (-1000000) 1000000
        all_goals
          have HP := Lib.hid hp
          have HQ := Lib.hid hq
          rw [hp, hq] at HM
          clear hp hq
          go_wp2_with (go_at_call 27; refine (bWithin_any _ _ _ _).mono ?_; (first | rw [HP.out] | rw [HQ.out]); rintro e w1 ⟨rfl, rfl⟩)
        all_goals
          first
            | (go_ret; exact ⟨by rw [HM.out]; rfl, hBB'.alloc (Below.size hBB') _⟩)
            | (refine ⟨⟨2, by omega, rfl, Lib.hid ⟨fun _ => H1.out, fun _ => (by first | trivial | (rw [HP.out, HQ.out]; rfl) | rfl)⟩, b2, hBB'.alloc (Below.size hBB') _⟩, by simp [intOf]⟩)
      · have h1 := HI.out.1 (by omega)
        have h2 := HI.out.2 (by omega)
        rw [h1, h2] at HM
        clear h1 h2 HI
        obtain ⟨X, hX⟩ : ∃ X, wi m.lv 0 1000000000 = X := ⟨_, rfl⟩
        have HX := Lib.hid hX
        rw [hX] at HM
        clear hX
        by_cases o1 : m.al ≤ m.ah
        · by_cases o2 : m.dl ≤ m.dh
          · have HE : Hid (markE m = if X then 0 else 2) := Lib.hid (by rw [HM.out]; simp [o1, o2])
            cases X
            all_goals
              go_wp2_with (go_at_call 85; refine (isLevel_any _ _).mono ?_; rw [HX.out]; rintro e w1 ⟨rfl, rfl⟩)
              go_ret
              exact ⟨by rw [HE.out]; rfl, hBB'⟩
          · have HE : Hid (markE m = 9) := Lib.hid (by rw [HM.out]; simp [o2])
            go_wp2
            go_ret
            exact ⟨by rw [HE.out]; rfl, hBB'⟩
        · have HE : Hid (markE m = 9) := Lib.hid (by rw [HM.out]; simp [o1])
          go_wp2
          go_ret
          exact ⟨by rw [HE.out]; rfl, hBB'⟩
end Go.Proofs.YtidgeagpgllkeaaGreat

namespace Go.Proofs.YtidgeagpgllkeaaGreat
open Go.RowKit

def marksB (l : List Mk) : Bool := if (8 < l.length ∧ l.length ≤ 20) ∨ 22 < l.length then false else l.all (fun m => decide (m.nm.size ≤ 20))
theorem marksB_true {l : List Mk} (h : marksB l = true) : l.length ≤ 22 ∧ ∀ m ∈ l, m.nm.size ≤ 20 := by
  unfold marksB at h
  split at h
  · cases h
  · exact ⟨by omega, fun m hm => of_decide_eq_true (List.all_eq_true.1 h m hm)⟩

set_option maxRecDepth 100000 in
set_option maxHeartbeats 1000000 in
theorem marks_any (l : List Mk) (A : Option Addr) (c B : Nat) (w : World) (hn : l.length ≤ 9223372036854775807) (hR : Row w B 6 A l.length (mksC l)) (hsz : Hid (∀ m ∈ l, m.nm.size ≤ 9223372036854775807)) (hB : B ≤ w.heap.size) :
    Calls Tryz.prog 35 #[.slice A l.length c] w fun e w' => e = .returned (.bool (marksB l)) ∧ Below w.heap.size w w' := by
  by_cases hbad : (8 < l.length ∧ l.length ≤ 20) ∨ 22 < l.length
  · have HE : Hid (marksB l = false) := Lib.hid (by unfold marksB; rw [if_pos hbad])
    go_enter Tryz.func35, Tryz.ntmps35
    rcases hbad with ⟨h1, h2⟩ | h1
    all_goals
      go_wp2
      go_ret
      exact ⟨by rw [HE.out]; rfl, (by repeat (first | (with_reducible exact Below.refl _ _) | (with_reducible assumption) | ((with_reducible refine Below.setCell ?_ ?_ _); rotate_left; · (first | exact Nat.le_refl _ | (simp; done) | (simp; omega) | omega)) | ((with_reducible refine Below.alloc ?_ ?_ _); rotate_left; · (first | exact Nat.le_refl _ | (simp; done) | (simp; omega) | omega)) | (with_reducible apply Below.drew) | (with_reducible apply below_drewN') | (refine Below.trans ?_ (Below.mono (by assumption) (by first | exact Nat.le_refl _ | (simp; done) | (simp; omega) | omega))) | exact Below.refl _ _ | assumption))⟩
  · have HV : Hid (marksB l = l.all (fun m => decide (m.nm.size ≤ 20))) := Lib.hid (by unfold marksB; rw [if_neg hbad])
    have hlen : l.length ≤ 8 ∨ (20 < l.length ∧ l.length ≤ 22) := by omega
    clear hbad
    go_enter Tryz.func35, Tryz.ntmps35
    rcases hlen with h1 | ⟨h1, h2⟩
    all_goals
      go_wp2
      go_loopw [3] (fun i wr => ∃ k : Nat, k ≤ l.length ∧ i = .int .i64 k ∧ Hid (∀ j (h : j < l.length), j < k → l[j].nm.size ≤ 20) ∧ Below w.heap.size w wr) (fun i _ => l.length - (intOf i).toNat)
      case atStart => exact ⟨0, Nat.zero_le _, rfl, Lib.hid (fun j _ hj => absurd hj (by omega)), Below.refl _ _⟩
      case round =>
        obtain ⟨k, hk, rfl, HI, hBB⟩ := hrel
        have hl' := hR.below hBB hB
        by_cases hlt : k < l.length
        · obtain ⟨g, o, hA, hg, c0, _, _, _, _, _⟩ := mkCells hl' hlt
          have hds := hsz.out l[k] (List.getElem_mem hlt)
          have HX : Hid (20 < l[k].nm.size → marksB l = false) := Lib.hid (fun h => by
            rw [HV.out]
            cases hc : l.all (fun m => decide (m.nm.size ≤ 20))
            · rfl
            · have := List.all_eq_true.1 hc _ (List.getElem_mem hlt)
              have := of_decide_eq_true this
              omega)
          have HY : Hid (l[k].nm.size ≤ 20 → ∀ j (h : j < l.length), j < k + 1 → l[j].nm.size ≤ 20) := Lib.hid (fun h j hj hjk => by
            by_cases e : j = k
            · subst e; exact h
            · exact HI.out j hj (by omega))
          generalize l[k].nm = s at *
          subst hA
          have hzb := Below.size hBB
          by_cases hd : 20 < s.size
          · have HE := Lib.hid (HX.out hd)
            clear HX HY
            go_wp2
            go_ret
            exact ⟨by rw [HE.out]; rfl, hBB⟩
          · have HE := Lib.hid (HY.out (by omega))
            clear HX HY
            go_wp2
            refine ⟨⟨k + 1, by omega, by go_num, HE, hBB⟩, by simp [intOf]; omega⟩
        · obtain rfl : k = l.length := by omega
          have HE : Hid (marksB l = true) := Lib.hid (by
            rw [HV.out, List.all_eq_true]
            intro m hm
            obtain ⟨j, hj, rfl⟩ := List.getElem_of_mem hm
            exact decide_eq_true (HI.out j hj hj))
          go_wp2
          go_ret
          exact ⟨by rw [HE.out]; rfl, hBB⟩

set_option maxRecDepth 100000 in
set_option maxHeartbeats 1000000 in
theorem refCheckMarks_any (l : List Mk) (A : Option Addr) (c B : Nat) (w : World) (hl : MkOk l A B w) (hB : B ≤ w.heap.size) :
    Calls Tryz.prog 38 #[.slice A l.length c] w fun e w' => e = .returned (.tuple #[.int .i64 (marksE l).1, .int .i64 (marksE l).2]) ∧ Below w.heap.size w w' := by
  have hn := hl.len
  by_cases h6 : 20 < l.length
  · have HE : Hid (marksE l = (0, 8)) := Lib.hid (by unfold marksE; rw [if_pos h6])
    have h6' : decide ((20 : Int) < (l.length : Int)) = true := by simp; omega
    go_enter Tryz.func38, Tryz.ntmps38
    go_wp2
    go_ret2
    exact ⟨by rw [HE.out]; rfl, (by repeat (first | (with_reducible exact Below.refl _ _) | (with_reducible assumption) | ((with_reducible refine Below.setCell ?_ ?_ _); rotate_left; · (first | exact Nat.le_refl _ | (simp; done) | (simp; omega) | omega)) | ((with_reducible refine Below.alloc ?_ ?_ _); rotate_left; · (first | exact Nat.le_refl _ | (simp; done) | (simp; omega) | omega)) | (with_reducible apply Below.drew) | (with_reducible apply below_drewN') | (refine Below.trans ?_ (Below.mono (by assumption) (by first | exact Nat.le_refl _ | (simp; done) | (simp; omega) | omega))) | exact Below.refl _ _ | assumption))⟩
  · have h6' : l.length ≤ 20 := by omega
    clear h6
    go_enter Tryz.func38, Tryz.ntmps38
    go_wp2
    go_loopw [4] (fun i wr => ∃ k : Nat, k ≤ l.length ∧ i = .int .i64 k ∧ Hid (MarksTo l k) ∧ Below w.heap.size w wr) (fun i _ => l.length - (intOf i).toNat)
    case atStart => exact ⟨0, Nat.zero_le _, rfl, Lib.hid (fun j _ hj => absurd hj (by omega)), Below.refl _ _⟩
    case round =>
      obtain ⟨k, hk, rfl, HI, hBB⟩ := hrel
      have hl' := hl.below hBB hB
      have hzb := Below.size hBB
      by_cases hlt : k < l.length
      · obtain ⟨g, o, hA, hg, c0, c1, c2, c3, c4, c5⟩ := mkCells hl'.row hlt
        have hms := hl'.size l[k] (List.getElem_mem hlt)
        have HBAD : Hid (markE l[k] ≠ 0 → marksE l = ((k : Int), markE l[k])) := Lib.hid (fun he => marksE_bad h6' hlt HI.out he)
        have HTW : Hid (markE l[k] = 0 → (l.take k).any (fun p => sameB p.nm l[k].nm) = true → marksE l = ((k : Int), 5)) := Lib.hid (fun he hs => marksE_twice h6' hlt HI.out he hs)
        have HST : Hid (markE l[k] = 0 → (l.take k).any (fun p => sameB p.nm l[k].nm) = false → MarksTo l (k + 1)) := Lib.hid (fun he hs => HI.out.step hlt he hs)
        have HANY : Hid (∀ j (hj : j < l.length), j < k → sameB l[j].nm l[k].nm = true → (l.take k).any (fun p => sameB p.nm l[k].nm) = true) := Lib.hid (fun j hj hjk hs => by
          rw [List.any_eq_true]
          exact ⟨l[j], List.mem_take_iff_getElem.2 ⟨j, by omega, rfl⟩, hs⟩)
        have HNONE : Hid ((∀ j (hj : j < l.length), j < k → sameB l[j].nm l[k].nm = false) → (l.take k).any (fun p => sameB p.nm l[k].nm) = false) := Lib.hid (fun h => by
          rw [List.any_eq_false]
          intro p hp
          obtain ⟨j, hj, rfl⟩ := List.mem_take_iff_getElem.1 hp
          rw [h j (by omega) (by omega)]; simp)
        obtain ⟨m, hm⟩ : ∃ m, l[k] = m := ⟨_, rfl⟩
        rw [hm] at c0 c1 c2 c3 c4 c5 hms HBAD HTW HST HANY HNONE
        have HM : Hid (l[k] = m) := Lib.hid hm
        clear hm
        subst hA
        obtain ⟨E, hE⟩ : ∃ E, markE m = E := ⟨_, rfl⟩
        rw [hE] at HBAD HTW HST
        have HE := Lib.hid hE; clear hE
        go_wp2_with fail
        refine (refMarkErr_any m hms _).mono ?_
        rw [HE.out]
        rintro e w1 ⟨rfl, hB1⟩
        have hl2 := hl'.below hB1 (by omega)
        replace hBB := hBB.trans (Below.mono hB1 hzb)
        have hzw := Below.size hB1
        have c0' : w1.cell? ⟨g, o + k * 6, none⟩ = some (.string m.nm) := by
          have := hB1.cell (p := ⟨g, o + k * 6, none⟩) (show g < wr.heap.size by omega)
          rw [this]; exact c0
        clear hB1 c0 c1 c2 c3 c4 c5 hl'
        by_cases h0 : E = 0
        · subst h0
          go_wp2
          go_loopw [6] (fun i w2 => ∃ j : Nat, j ≤ k ∧ i = .int .i64 j ∧ Hid (∀ t (ht : t < l.length), t < j → sameB l[t].nm m.nm = false) ∧ Below w.heap.size w w2) (fun i _ => k - (intOf i).toNat)
          case atStart => exact ⟨0, Nat.zero_le _, rfl, Lib.hid (fun t _ ht => absurd ht (by omega)), hBB⟩
          case round =>
            clear hBB hl2 c0'
            obtain ⟨j, hj, rfl, HJ, hBB⟩ := hrel
            have hl2 := hl.below hBB hB
            by_cases hjk : j < k
            · obtain ⟨g', o', hA', hg', c0, _, _, _, _, _⟩ := mkCells hl2.row hlt
              obtain ⟨rfl, rfl⟩ : g = g' ∧ o = o' := by injection hA' with h; injection h with h1 h2 h3; exact ⟨h1, h2⟩
              obtain ⟨g', o', hA', hg', d0, _, _, _, _, _⟩ := mkCells hl2.row (show j < l.length by omega)
              obtain ⟨rfl, rfl⟩ : g = g' ∧ o = o' := by injection hA' with h; injection h with h1 h2 h3; exact ⟨h1, h2⟩
              rw [HM.out] at c0
              have HY : Hid (sameB l[j].nm m.nm = true → marksE l = ((k : Int), 5)) := Lib.hid (fun h => HTW.out (by first | trivial | rfl) (HANY.out j (by omega) hjk h))
              have HZ : Hid (sameB l[j].nm m.nm = false → ∀ t (ht : t < l.length), t < j + 1 → sameB l[t].nm m.nm = false) := Lib.hid (fun h t ht htj => by
                by_cases e : t = j
                · subst e; exact h
                · exact HJ.out t ht (by omega))
              generalize l[j].nm = s at *
              cases hs : sameB s m.nm
              · have HX := Lib.hid (HZ.out hs)
                have hs' : (s.toList == m.nm.toList) = false := hs
                clear HY HZ hs
                go_wp2_with fail
                go_quiet (fail)
                go_wp2
                refine ⟨⟨j + 1, by omega, by go_num, HX, below_drewN' hBB _⟩, by simp [intOf]; omega⟩
              · have HX := Lib.hid (HY.out hs)
                have hs' : (s.toList == m.nm.toList) = true := hs
                clear HY HZ hs
                go_wp2_with fail
                go_quiet (fail)
                go_wp2
                go_ret2
                exact ⟨by rw [HX.out]; rfl, below_drewN' hBB _⟩
            · obtain rfl : j = k := by omega
              have HX := Lib.hid (HST.out (by first | trivial | rfl) (HNONE.out HJ.out))
              go_wp2
              refine ⟨⟨j + 1, by omega, by go_num, HX, hBB⟩, by simp [intOf]; omega⟩
        · have h0' : (E != 0) = true := by simpa using h0
          have HX := Lib.hid (HBAD.out h0)
          go_wp2
          go_ret2
          exact ⟨by rw [HX.out]; rfl, hBB⟩
      · obtain rfl : k = l.length := by omega
        have HE : Hid (marksE l = (0, 0)) := Lib.hid (marksE_end h6' HI.out)
        go_wp2
        go_ret2
        exact ⟨by rw [HE.out]; rfl, hBB⟩
end Go.Proofs.YtidgeagpgllkeaaGreat
