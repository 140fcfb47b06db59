/- Contract: the error of the cells of an area. -/
import Derived.Test.YtclpljbllnhhbaaGreatZeFiA
namespace Go.Proofs.YtclpljbllnhhbaaGreat
open Go.RowKit

theorem cellsC_get : ∀ (l : List (Int × Int)) (k : Nat) (p : Int × Int), l[k]? = some p → (cellsC l)[k * 2]? = some (.int .i64 p.1) ∧ (cellsC l)[k * 2 + 1]? = some (.int .i64 p.2)
  | [], k, p, h => by simp at h
  | q :: l, 0, p, h => by obtain rfl : q = p := by simpa using h
                          exact ⟨rfl, rfl⟩
  | q :: l, k + 1, p, h => by
    have ih := cellsC_get l k p (by simpa using h)
    have e : cellsC (q :: l) = encC q ++ cellsC l := by simp [cellsC]
    rw [e, List.getElem?_append_right (by rw [encC_len]; omega), List.getElem?_append_right (by rw [encC_len]; omega), encC_len, show (k + 1) * 2 - 2 = k * 2 by omega, show (k + 1) * 2 + 1 - 2 = k * 2 + 1 by omega]
    exact ih
theorem cellPair {w : World} {B : Nat} {A : Option Addr} {l : List (Int × Int)} (h : Row w B 2 A l.length (cellsC l)) {k : Nat} (hk : k < l.length) :
    ∃ g o, A = some ⟨g, o, none⟩ ∧ g < B ∧ w.cell? ⟨g, o + k * 2, none⟩ = some (.int .i64 l[k].1) ∧ w.cell? ⟨g, o + k * 2 + 1, none⟩ = some (.int .i64 l[k].2) := by
  obtain ⟨g, o, hA, hb, hc⟩ := h.2 (by omega)
  obtain ⟨c0, c1⟩ := cellsC_get l k l[k] (List.getElem?_eq_getElem hk)
  exact ⟨g, o, hA, hb, hc _ _ c0, hc _ _ c1⟩
def inC (c : Int × Int) : Bool := wi c.1 (-200000) 200000 && wi c.2 (-200000) 200000
def clash (p : Option (Int × Int)) (c : Int × Int) : Bool := match p with
  | none => false
  | some q => !befB q c
def cellsE' : Option (Int × Int) → List (Int × Int) → Int
  | _, [] => 0
  | p, c :: t => if inC c = false then 2 else if clash p c = true then 9 else cellsE' (some c) t
/-- The error of the cells of an area. -/
def cellsE (l : List (Int × Int)) : Int := if l.length = 0 then 10 else if 4096 < l.length then 8 else cellsE' none l
def prevC (l : List (Int × Int)) (k : Nat) : Option (Int × Int) := if k = 0 then none else l[k - 1]?
def CellsTo (l : List (Int × Int)) (k : Nat) : Prop := ∀ j (h : j < l.length), j < k → inC l[j] = true ∧ clash (prevC l j) l[j] = false
theorem cellsE_skip (l : List (Int × Int)) : ∀ k, k ≤ l.length → CellsTo l k → cellsE' none l = cellsE' (prevC l k) (l.drop k)
  | 0, _, _ => by simp [prevC]
  | k + 1, hk, h => by
    have hkl : k < l.length := by omega
    rw [cellsE_skip l k (by omega) (fun j hj hjk => h j hj (by omega)), List.drop_eq_getElem_cons hkl]
    obtain ⟨h1, h2⟩ := h k hkl (by omega)
    show (if inC l[k] = false then 2 else if clash (prevC l k) l[k] = true then 9 else cellsE' (some l[k]) (l.drop (k + 1))) = _
    rw [h1, h2, if_neg (by decide), if_neg (by decide)]
    unfold prevC
    rw [if_neg (by omega), Nat.add_sub_cancel, List.getElem?_eq_getElem hkl]
theorem cellsE_at {l : List (Int × Int)} {k : Nat} (hp : 0 < l.length) (hl : l.length ≤ 4096) (hk : k < l.length) (h : CellsTo l k) : cellsE l = if inC l[k] = false then 2 else if clash (prevC l k) l[k] = true then 9 else cellsE' (some l[k]) (l.drop (k + 1)) := by
  unfold cellsE
  rw [if_neg (by omega), if_neg (by omega), cellsE_skip l k (by omega) h, List.drop_eq_getElem_cons hk]; rfl
theorem cellsE_end {l : List (Int × Int)} (hp : 0 < l.length) (hl : l.length ≤ 4096) (h : CellsTo l l.length) : cellsE l = 0 := by
  unfold cellsE
  rw [if_neg (by omega), if_neg (by omega), cellsE_skip l l.length (Nat.le_refl _) h, List.drop_length]; rfl
theorem CellsTo.step {l : List (Int × Int)} {k : Nat} (hk : k < l.length) (h : CellsTo l k) (h1 : inC l[k] = true) (h2 : clash (prevC l k) l[k] = false) : CellsTo l (k + 1) := fun j hj hjk => by
  by_cases e : j = k
  · subst e; exact ⟨h1, h2⟩
  · exact h j hj (by omega)
theorem cellsE_zero {l : List (Int × Int)} (h : cellsE l = 0) : 0 < l.length ∧ l.length ≤ 4096 ∧ ∀ c ∈ l, inC c = true := by
  unfold cellsE at h
  split at h
  · cases h
  split at h
  · cases h
  refine ⟨by omega, by omega, ?_⟩
  have key : ∀ (l : List (Int × Int)) (p : Option (Int × Int)), cellsE' p l = 0 → ∀ c ∈ l, inC c = true := by
    intro l
    induction l with
    | nil => intro _ _ c hc; cases hc
    | cons a l ih =>
      intro p h c hc
      unfold cellsE' at h
      split at h
      · cases h
      split at h
      · cases h
      rename_i h1 _
      rcases List.mem_cons.1 hc with rfl | hc
      · simpa using h1
      · exact ih _ h c hc
  exact key l none h

set_option maxRecDepth 100000 in
set_option maxHeartbeats 4000000 in
theorem cellsErr_any (l : List (Int × Int)) (A : Option Addr) (c B : Nat) (w : World) (hR : Row w B 2 A l.length (cellsC l)) (hB : B ≤ w.heap.size) (hl : l.length ≤ 9223372036854775807) :
    Calls Tryz.prog 27 #[.slice A l.length c] w fun e w' => e = .returned (.int .i64 (cellsE l)) ∧ Below w.heap.size w w' := by
  by_cases h0 : l.length = 0
  · have HE : Hid (cellsE l = 10) := Lib.hid (by unfold cellsE; rw [if_pos h0])
    have h0' : ((l.length : Int) == 0) = true := by simpa using h0
    go_enter Tryz.func27, Tryz.ntmps27
    go_wp2
    go_ret
    exact ⟨by rw [HE.out]; rfl, (by repeat (first | (with_reducible exact Below.refl _ _) | (with_reducible assumption) | ((with_reducible refine Below.setCell ?_ ?_ _); rotate_left; · (first | exact Nat.le_refl _ | (simp; done) | (simp; omega) | omega)) | ((with_reducible refine Below.alloc ?_ ?_ _); rotate_left; · (first | exact Nat.le_refl _ | (simp; done) | (simp; omega) | omega)) | (with_reducible apply Below.drew) | (with_reducible apply below_drewN') | (refine Below.trans ?_ (Below.mono (by assumption) (by first | exact Nat.le_refl _ | (simp; done) | (simp; omega) | omega))) | exact Below.refl _ _ | assumption))⟩
  by_cases h9 : 4096 < l.length
  · have HE : Hid (cellsE l = 8) := Lib.hid (by unfold cellsE; rw [if_neg h0, if_pos h9])
    have h0' : ((l.length : Int) == 0) = false := by simpa using h0
    go_enter Tryz.func27, Tryz.ntmps27
    go_wp2
    go_ret
    exact ⟨by rw [HE.out]; rfl, (by repeat (first | (with_reducible exact Below.refl _ _) | (with_reducible assumption) | ((with_reducible refine Below.setCell ?_ ?_ _); rotate_left; · (first | exact Nat.le_refl _ | (simp; done) | (simp; omega) | omega)) | ((with_reducible refine Below.alloc ?_ ?_ _); rotate_left; · (first | exact Nat.le_refl _ | (simp; done) | (simp; omega) | omega)) | (with_reducible apply Below.drew) | (with_reducible apply below_drewN') | (refine Below.trans ?_ (Below.mono (by assumption) (by first | exact Nat.le_refl _ | (simp; done) | (simp; omega) | omega))) | exact Below.refl _ _ | assumption))⟩
  have h0' : ((l.length : Int) == 0) = false := by simpa using h0
  have hp : 0 < l.length := by omega
  have h9' : l.length ≤ 4096 := by omega
  clear h0 h9
  go_enter Tryz.func27, Tryz.ntmps27
  go_wp2
  go_loopw [15] (fun i wr => ∃ k : Nat, k ≤ l.length ∧ i = .int .i64 k ∧ Hid (CellsTo l k) ∧ Below w.heap.size w wr) (fun i _ => l.length - (intOf i).toNat)
  case atStart => exact ⟨0, Nat.zero_le _, rfl, Lib.hid (fun j _ hj => absurd hj (by omega)), Below.refl _ _⟩
  case round =>
    obtain ⟨k, hk, rfl, HI, hBB⟩ := hrel
    have hzb := Below.size hBB
    have hRr := hR.below hBB hB
    by_cases hlt : k < l.length
    · obtain ⟨g, o, hA, hg, c0, c1⟩ := cellPair hRr hlt
      have HAT := Lib.hid (cellsE_at hp h9' hlt HI.out)
      have HST : Hid (inC l[k] = true → clash (prevC l k) l[k] = false → CellsTo l (k + 1)) := Lib.hid (fun h1 h2 => HI.out.step hlt h1 h2)
      have HP : Hid (∀ (h : 0 < k), prevC l k = some (l[k - 1]'(by omega))) := Lib.hid (fun h => by unfold prevC; rw [if_neg (by omega), List.getElem?_eq_getElem (by omega)])
      have HP0 : Hid (k = 0 → clash (prevC l k) l[k] = false) := Lib.hid (fun h => by unfold prevC; rw [if_pos h]; rfl)
      obtain ⟨q, hq⟩ : ∃ q, l[k] = q := ⟨_, rfl⟩
      rw [hq] at c0 c1 HAT HST HP0
      have HQ : Hid (inC q = (wi q.1 (-200000) 200000 && wi q.2 (-200000) 200000)) := Lib.hid rfl
      clear hq
      subst hA
      have b4 := Blk.new wr 39 #[.int .i64 q.1, .int .i64 q.2]
      obtain ⟨e0, e1, _⟩ := blk2c b4
      have hB4 := hBB.alloc hzb (.cells #[.int .i64 q.1, .int .i64 q.2] 39)
      cases h1 : wi q.1 (-200000) 200000
      · have HE : Hid (cellsE l = 2) := Lib.hid (by rw [HAT.out, if_pos (by rw [HQ.out, h1]; rfl)])
        have H1 := Lib.hid h1; clear h1
        go_wp2_with (go_at_call 57; refine (small_any _ _ (by decide) (by decide) _).mono ?_; rw [H1.out]; rintro e w1 ⟨rfl, rfl⟩)
        go_ret
        exact ⟨by rw [HE.out]; rfl, hB4⟩
      cases h2 : wi q.2 (-200000) 200000
      · have HE : Hid (cellsE l = 2) := Lib.hid (by rw [HAT.out, if_pos (by rw [HQ.out, h1, h2]; rfl)])
        have H1 := Lib.hid h1; have H2 := Lib.hid h2; clear h1 h2
        go_wp2_with (go_at_call 57; refine (small_any _ _ (by decide) (by decide) _).mono ?_; (first | rw [H1.out] | rw [H2.out]); rintro e w1 ⟨rfl, rfl⟩)
        go_ret
        exact ⟨by rw [HE.out]; rfl, hB4⟩
      have HIN : Hid (inC q = true) := Lib.hid (by rw [HQ.out, h1, h2]; rfl)
      have H1 := Lib.hid h1; have H2 := Lib.hid h2; clear h1 h2
      go_wp2_with (go_at_call 57; refine (small_any _ _ (by decide) (by decide) _).mono ?_; (first | rw [H1.out] | rw [H2.out]); rintro e w1 ⟨rfl, rfl⟩)
      go_upto_region 10 with fail
      obtain ⟨wx, hwx⟩ : ∃ wx, wr.alloc (.cells #[.int .i64 q.1, .int .i64 q.2] 39) = wx := ⟨_, rfl⟩
      have hRx := hR.below hB4 hB
      rw [hwx] at b4 e0 e1 hB4 hRx ⊢
      have hzx := Below.size hB4
      cases k with
      | zero =>
        have HE0 : Hid (CellsTo l (0 + 1)) := Lib.hid (HST.out HIN.out (HP0.out rfl))
        clear hRx hRr HP HP0 HST HIN hwx
        refine wp_region_b 10 (by kernel_rfl) (by kernel_rfl) ?_; simp only [List.take, List.drop]
        repeat (first
          | (apply StepsD.run
             · go_simp
               done
             · intro w' hS K hK
               have hc := (bcell hS).1
               have hf := (bcell hS).2
               have hz := hS.size
               try simp at hz
               go_simp
               try go_bits
               first
                 | exact hK _ hS
                 | exact hK _ (by repeat (first | (with_reducible exact Below.refl _ _) | (with_reducible assumption) | ((with_reducible refine Below.setCell ?_ ?_ _); rotate_left; · (first | exact Nat.le_refl _ | (simp; done) | (simp; omega) | omega)) | ((with_reducible refine Below.alloc ?_ ?_ _); rotate_left; · (first | exact Nat.le_refl _ | (simp; done) | (simp; omega) | omega)) | (with_reducible apply Below.drew) | (with_reducible apply below_drewN') | (refine Below.trans ?_ (Below.mono (by assumption) (by first | exact Nat.le_refl _ | (simp; done) | (simp; omega) | omega))) | exact Below.refl _ _ | assumption))
             · simp [Act.put]
               done)
          | (apply StepsD.pass
             · go_simp
               done
             · simp only [Act.put, List.setIfInBounds_toArray, List.set_cons_succ, List.set_cons_zero]
               rfl))
        refine StepsD.done ?_
        intro w1 hS
        replace hB4 := hB4.trans (Below.mono hS (Below.size hB4))
        clear hS
        go_wp2
        refine ⟨⟨0 + 1, by omega, by go_num, HE0, hB4⟩, by simp [intOf]; omega⟩
      | succ j =>
        obtain ⟨g2, o2, hA2, hg2, c2, c3⟩ := cellPair hRx (show j < l.length by omega)
        have ej : ((j + 1 : Nat) : Int) - 1 = (j : Int) := by omega
        obtain ⟨rfl, rfl⟩ : g2 = g ∧ o2 = o := by
          cases hA2; exact ⟨rfl, rfl⟩
        have hjl : j < l.length := by omega
        have hgx : g2 < wx.heap.size := by omega
        obtain ⟨q', hq'⟩ : ∃ q', l[j] = q' := ⟨_, rfl⟩
        have HPQ : Hid (prevC l (j + 1) = some q') := Lib.hid (by rw [HP.out (by omega), ← hq']; rfl)
        rw [hq'] at c2 c3
        have jp : decide ((0 : Int) < ((j + 1 : Nat) : Int)) = true := by simp
        clear hq' hRx hRr HP HP0 hwx hA2
        have l_b4 := b4.lt
        obtain ⟨e0, e1, f4⟩ := blk2c b4
        refine wp_region_b 10 (by kernel_rfl) (by kernel_rfl) ?_; simp only [List.take, List.drop]
        repeat (first
          | (apply StepsD.run
             · go_simp
               done
             · intro w' hS K hK
               have hc := (bcell hS).1
               have hf := (bcell hS).2
               have hz := hS.size
               try simp at hz
               go_simp
               try go_bits
               first
                 | exact hK _ hS
                 | (go_at_call 36; (with_reducible refine (ordered_any (_, _) (_, _) _).mono ?_); rintro e w1 ⟨rfl, hB1⟩; obtain ⟨hc1, hf1⟩ := bcell hB1; have hz1 := hB1.size; (try simp at hz1); exact hK _ (Below.trans hS (Below.mono hB1 (by first | exact Nat.le_refl _ | (simp; done) | (simp; omega) | omega))))
                 | exact hK _ (by repeat (first | (with_reducible exact Below.refl _ _) | (with_reducible assumption) | ((with_reducible refine Below.setCell ?_ ?_ _); rotate_left; · (first | exact Nat.le_refl _ | (simp; done) | (simp; omega) | omega)) | ((with_reducible refine Below.alloc ?_ ?_ _); rotate_left; · (first | exact Nat.le_refl _ | (simp; done) | (simp; omega) | omega)) | (with_reducible apply Below.drew) | (with_reducible apply below_drewN') | (refine Below.trans ?_ (Below.mono (by assumption) (by first | exact Nat.le_refl _ | (simp; done) | (simp; omega) | omega))) | exact Below.refl _ _ | assumption))
             · simp [Act.put]
               done)
          | (apply StepsD.pass
             · go_simp
               done
             · simp only [Act.put, List.setIfInBounds_toArray, List.set_cons_succ, List.set_cons_zero]
               rfl))
        refine StepsD.done ?_
        intro w1 hS
        replace b4 := b4.gr hS
        replace hB4 := hB4.trans (Below.mono hS (Below.size hB4))
        clear hS
        clear l_b4 e0 e1 f4
        have l_b4 := b4.lt
        obtain ⟨e0, e1, f4⟩ := blk2c b4
        cases hd : decide (0 ≤ cmp2 (q'.1, q'.2) (q.1, q.2))
        · have HCL : Hid (clash (prevC l (j + 1)) q = false) := Lib.hid (by rw [HPQ.out]; show (!befB q' q) = false; rw [befB_cmp]; simp only [decide_eq_false_iff_not] at hd; simp; exact Int.not_le.1 hd)
          have HE0 : Hid (CellsTo l (j + 1 + 1)) := Lib.hid (HST.out HIN.out HCL.out)
          clear HPQ HST HCL
          go_wp2
          refine ⟨⟨j + 1 + 1, by omega, by go_num, HE0, hB4⟩, by simp [intOf]; omega⟩
        · have HE : Hid (cellsE l = 9) := Lib.hid (by rw [HAT.out, if_neg (by rw [HIN.out]; decide), if_pos (by rw [HPQ.out]; show (!befB q' q) = true; rw [befB_cmp]; simp only [decide_eq_true_eq] at hd; simp; exact hd)])
          clear HPQ HST
          go_wp2
          go_ret
          exact ⟨by rw [HE.out]; rfl, hB4⟩
    · obtain rfl : k = l.length := by omega
      have HE : Hid (cellsE l = 0) := Lib.hid (cellsE_end hp h9' HI.out)
      go_wp2
      go_ret
      exact ⟨by rw [HE.out]; rfl, hBB⟩
end Go.Proofs.YtclpljbllnhhbaaGreat
