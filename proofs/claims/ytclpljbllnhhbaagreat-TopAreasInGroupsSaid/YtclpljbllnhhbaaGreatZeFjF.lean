/- Contract: a cell put at its place in ascending cells. Contract: all cells that are known with a level, ascending. -/
import Derived.Test.YtclpljbllnhhbaaGreatZeFjG
import Derived.Test.YtclpljbllnhhbaaGreatZeFiF
import Derived.Test.YtclpljbllnhhbaaGreatZeFjD
namespace Go.Proofs.YtclpljbllnhhbaaGreat
open Go.RowKit

theorem bef_trans {x y z : Int × Int} (h : befB x y = true) (h' : befB y z = true) : befB x z = true := by rw [bef_iff] at *; omega
def insAt (L : List (Int × Int)) (x : Int × Int) (k : Nat) : List (Int × Int) := L.take k ++ x :: L.drop k
def shiftL (L : List (Int × Int)) (x : Int × Int) (i : Nat) : List (Int × Int) := (L ++ [x]).take (i + 1) ++ L.drop i
theorem shiftL_end (L : List (Int × Int)) (x : Int × Int) : shiftL L x L.length = L ++ [x] := by
  unfold shiftL
  rw [List.drop_length, List.append_nil, List.take_of_length_le (by simp)]
theorem shiftL_len {L : List (Int × Int)} {i : Nat} (x : Int × Int) (hi : i ≤ L.length) : (shiftL L x i).length = L.length + 1 := by simp [shiftL]; omega
theorem shiftL_get {L : List (Int × Int)} {i : Nat} (x : Int × Int) (hi : i ≤ L.length) (j : Nat) : (shiftL L x i)[j]? = if j ≤ i then (L ++ [x])[j]? else L[j - 1]? := by
  have hl : ((L ++ [x]).take (i + 1)).length = i + 1 := by simp; omega
  unfold shiftL
  rw [List.getElem?_append, hl]
  by_cases h : j ≤ i
  · rw [if_pos h, if_pos (by omega), List.getElem?_take_of_lt (by omega)]
  · rw [if_neg h, if_neg (by omega), List.getElem?_drop]
    congr 1; omega
theorem shiftL_set {L : List (Int × Int)} {i : Nat} (x : Int × Int) (hi : i < L.length) : (shiftL L x (i + 1)).set (i + 1) L[i] = shiftL L x i := by
  apply List.ext_getElem?
  intro j
  rw [List.getElem?_set, shiftL_get x hi, shiftL_get x (Nat.le_of_lt hi), shiftL_len x hi]
  by_cases e : i + 1 = j
  · subst e
    rw [if_pos rfl, if_pos (by omega), if_neg (by omega), Nat.add_sub_cancel, List.getElem?_eq_getElem hi]
  · rw [if_neg e]
    by_cases h : j ≤ i
    · rw [if_pos (by omega), if_pos h]
    · rw [if_neg (by omega), if_neg h]
theorem shiftL_done {L : List (Int × Int)} {k : Nat} (x : Int × Int) (hk : k ≤ L.length) : (shiftL L x k).set k x = insAt L x k := by
  apply List.ext_getElem?
  intro j
  have hl : (L.take k).length = k := by simp; omega
  unfold insAt
  rw [List.getElem?_set, shiftL_get x hk, shiftL_len x hk, @List.getElem?_append _ (L.take k), hl]
  by_cases e : k = j
  · subst e
    rw [if_pos rfl, if_pos (by omega), if_neg (by omega), Nat.sub_self]; rfl
  · rw [if_neg e]
    by_cases h : j < k
    · rw [if_pos (by omega), if_pos h, List.getElem?_append_left (by omega), List.getElem?_take_of_lt h]
    · rw [if_neg (by omega), if_neg h]
      obtain ⟨m, hm⟩ : ∃ m, j - k = m + 1 := ⟨j - k - 1, by omega⟩
      rw [hm, List.getElem?_cons_succ, List.getElem?_drop]
      congr 1; omega
theorem ins_ok {L : List (Int × Int)} {x : Int × Int} {k : Nat} (ha : L.Pairwise fun x y => befB x y = true) (hk : k ≤ L.length) (h1 : ∀ j (h : j < L.length), k ≤ j → befB L[j] x = false) (h2 : ∀ _ : 0 < k, befB (L[k - 1]'(by omega)) x = true) (hne : ∀ h : k < L.length, L[k] ≠ x) :
    (insAt L x k).Pairwise (fun x y => befB x y = true) ∧ ∀ y, y ∈ insAt L x k ↔ y = x ∨ y ∈ L := by
  have hp := List.pairwise_iff_getElem.1 ha
  have hup : ∀ y ∈ L.drop k, befB x y = true := fun y hy => by
    obtain ⟨j, hj, e⟩ := List.getElem_of_mem hy
    rw [List.getElem_drop] at e
    rw [List.length_drop] at hj
    have hkl : k < L.length := by omega
    have h0 : befB x L[k] = true := by
      rcases bef_tri (hne hkl) with h | h
      · rw [h1 k hkl (Nat.le_refl _)] at h; cases h
      · exact h
    rw [← e]
    by_cases ej : j = 0
    · subst ej; exact h0
    · exact bef_trans h0 (hp k (k + j) hkl (by omega) (by omega))
  have hlo : ∀ y ∈ L.take k, befB y x = true := fun y hy => by
    obtain ⟨j, hj, e⟩ := List.mem_take_iff_getElem.1 hy
    rw [← e]
    have hpos : 0 < k := by omega
    have h0 := h2 hpos
    by_cases ej : j = k - 1
    · subst ej; exact h0
    · exact bef_trans (hp j (k - 1) (by omega) (by omega) (by omega)) h0
  constructor
  · unfold insAt
    rw [List.pairwise_append]
    refine ⟨ha.sublist (List.take_sublist _ _), List.pairwise_cons.2 ⟨hup, ha.sublist (List.drop_sublist _ _)⟩, fun a ha' b hb => ?_⟩
    rcases List.mem_cons.1 hb with rfl | hb
    · exact hlo a ha'
    · exact bef_trans (hlo a ha') (hup b hb)
  · intro y
    unfold insAt
    rw [List.mem_append, List.mem_cons]
    have : y ∈ L ↔ y ∈ L.take k ∨ y ∈ L.drop k := by rw [← List.mem_append, List.take_append_drop]
    rw [this]
    constructor
    · rintro (h | h | h)
      · exact .inr (.inl h)
      · exact .inl h
      · exact .inr (.inr h)
    · rintro (h | h | h)
      · exact .inr (.inl h)
      · exact .inl h
      · exact .inr (.inr h)
theorem cellsC_set : ∀ (L : List (Int × Int)) (k : Nat) (y : Int × Int), k < L.length → cellsC (L.set k y) = ((cellsC L).set (k * 2) (.int .i64 y.1)).set (k * 2 + 1) (.int .i64 y.2)
  | [], k, y, h => by simp at h
  | q :: L, 0, y, h => by simp [cellsC, encC]
  | q :: L, k + 1, y, h => by
    have ih := cellsC_set L k y (by simpa using h)
    have e : ∀ (q : Int × Int) (l : List (Int × Int)), cellsC (q :: l) = encC q ++ cellsC l := fun q l => by simp [cellsC]
    rw [List.set_cons_succ, e, e, ih, List.set_append_right _ _ (by rw [encC_len]; omega), List.set_append_right _ _ (by rw [encC_len]; omega), encC_len, show (k + 1) * 2 - 2 = k * 2 by omega, show (k + 1) * 2 + 1 - 2 = k * 2 + 1 by omega]
/-- The cells, one of which is stored anew. -/
theorem own_put {w : World} {base g n cap : Nat} {L : List (Int × Int)} {e : TypeId} (h : w.ownsRow base e 2 (.slice (some ⟨g, 0, none⟩) n cap) n (cellsC L)) {k : Nat} (hk : k < L.length) (y : Int × Int) :
    ((w.setCell ⟨g, k * 2, none⟩ (.int .i64 y.1)).setCell ⟨g, k * 2 + 1, none⟩ (.int .i64 y.2)).ownsRow base e 2 (.slice (some ⟨g, 0, none⟩) n cap) n (cellsC (L.set k y)) ∧ w.grownBy ((w.setCell ⟨g, k * 2, none⟩ (.int .i64 y.1)).setCell ⟨g, k * 2 + 1, none⟩ (.int .i64 y.2)) (some g) := by
  obtain ⟨r1, g1⟩ := h.stored (k * 2) (.int .i64 y.1)
  obtain ⟨r2, g2⟩ := r1.stored (k * 2 + 1) (.int .i64 y.2)
  rw [cellsC_set L k y hk]
  exact ⟨r2, g1.trans g2⟩

set_option maxRecDepth 100000 in
set_option maxHeartbeats 4000000 in
theorem put_pos (base g : Nat) (L : List (Int × Int)) (cap : Nat) (x : Int × Int) (w : World) (hown : w.ownsRow base 39 2 (.slice (some ⟨g, 0, none⟩) L.length cap) L.length (cellsC L)) (hb : base ≤ w.heap.size) (ha : L.Pairwise fun x y => befB x y = true) (hl : L.length ≤ 100000) (hp : 0 < L.length) :
    Calls Tryz.prog 25 #[.slice (some ⟨g, 0, none⟩) L.length cap, .agg #[.int .i64 x.1, .int .i64 x.2]] w fun e w' => ∃ v' L', e = .returned v' ∧ L'.Pairwise (fun x y => befB x y = true) ∧ (∀ y, y ∈ L' ↔ y = x ∨ y ∈ L) ∧ L'.length ≤ L.length + 1 ∧ w'.ownsRow base 39 2 v' L'.length (cellsC L') ∧ Below base w w' := by
  obtain ⟨i0, hi, hz0, hz1, hz2⟩ := info_parts infoCell
  have HA := Lib.hid ha; clear ha
  obtain ⟨hbg, hgw⟩ := hown.lt g rfl
  have b3 := Blk.new w 39 #[.int .i64 x.1, .int .i64 x.2]
  have hBB : Below w.heap.size w (w.alloc (.cells #[.int .i64 x.1, .int .i64 x.2] 39)) := (by repeat (first | (with_reducible exact Below.refl _ _) | (with_reducible assumption) | ((with_reducible refine Below.setCell ?_ ?_ _); rotate_left; · (first | exact Nat.le_refl _ | (simp; done) | (simp; omega) | omega)) | ((with_reducible refine Below.alloc ?_ ?_ _); rotate_left; · (first | exact Nat.le_refl _ | (simp; done) | (simp; omega) | omega)) | (with_reducible apply Below.drew) | (with_reducible apply below_drewN') | (refine Below.trans ?_ (Below.mono (by assumption) (by first | exact Nat.le_refl _ | (simp; done) | (simp; omega) | omega))) | exact Below.refl _ _ | assumption))
  have hwn := hown.alloc (.cells #[.int .i64 x.1, .int .i64 x.2] 39)
  go_enter Tryz.func25, Tryz.ntmps25
  go_wp2
  generalize (w.alloc (.cells #[.int .i64 x.1, .int .i64 x.2] 39)) = W at *
  go_loopw [5] (fun i wr => ∃ k : Nat, k ≤ L.length ∧ i = .int .i64 k ∧ Hid (∀ j (h : j < L.length), k ≤ j → befB L[j] x = false) ∧ wr.ownsRow base 39 2 (.slice (some ⟨g, 0, none⟩) L.length cap) L.length (cellsC L) ∧ Blk wr w.heap.size 39 #[.int .i64 x.1, .int .i64 x.2] ∧ Below w.heap.size w wr) (fun i _ => (intOf i).toNat)
  case atStart => exact ⟨L.length, Nat.le_refl _, rfl, Lib.hid (fun j hj hk => absurd hj (by omega)), hwn, b3, hBB⟩
  case round =>
    clear b3 hBB hwn hown
    obtain ⟨k, hk, rfl, HI, hown, b3, hBB⟩ := hrel
    have hout : k = 0 ∨ (∃ j, k = j + 1) := by
      cases k with
      | zero => exact .inl rfl
      | succ j => exact .inr ⟨j, rfl⟩
    rcases hout with h0 | ⟨j, hj⟩
    case' inl =>
      have H2 : Hid (∀ j (h : j < L.length), j + 1 = k → befB L[j] x = true) := Lib.hid (fun j _ e => by omega)
      have jp : decide (0 < k) = false := by simp; omega
      have H0 := Lib.hid h0; clear h0
      go_upto_region 2 with fail
      have l_b3 := b3.lt
      obtain ⟨e0, e1, f3⟩ := blk2c b3
      refine wp_region_b 12 (by kernel_rfl) (by kernel_rfl) ?_; simp only [List.take, List.drop]
      repeat (first
        | (apply StepsD.run
           · go_simp
             done
           · intro w' hS K hK
             have hc := (bcell hS).1
             have hf := (bcell hS).2
             have hz := hS.size
             try simp at hz
             go_simp
             try go_bits
             first
               | exact hK _ hS
               | exact hK _ (by repeat (first | (with_reducible exact Below.refl _ _) | (with_reducible assumption) | ((with_reducible refine Below.setCell ?_ ?_ _); rotate_left; · (first | exact Nat.le_refl _ | (simp; done) | (simp; omega) | omega)) | ((with_reducible refine Below.alloc ?_ ?_ _); rotate_left; · (first | exact Nat.le_refl _ | (simp; done) | (simp; omega) | omega)) | (with_reducible apply Below.drew) | (with_reducible apply below_drewN') | (refine Below.trans ?_ (Below.mono (by assumption) (by first | exact Nat.le_refl _ | (simp; done) | (simp; omega) | omega))) | exact Below.refl _ _ | assumption))
           · simp [Act.put]
             done)
        | (apply StepsD.pass
           · go_simp
             done
           · simp only [Act.put, List.setIfInBounds_toArray, List.set_cons_succ, List.set_cons_zero]
             rfl))
      refine StepsD.done ?_
      intro w1 hS
      replace b3 := b3.gr hS
      replace hown := own_below hown hS
      replace hBB := hBB.trans (Below.mono hS (Below.size hBB))
      clear hS e0 e1 f3 l_b3 jp H0
    case' inr =>
      have hjl : j < L.length := by omega
      obtain ⟨p0, p1⟩ := rowCell hown hjl
      have jp : decide (0 < k) = true := by simp; omega
      have ej : (k : Int) - 1 = (j : Int) := by omega
      obtain ⟨q, hq⟩ : ∃ q, L[j] = q := ⟨_, rfl⟩
      rw [hq] at p0 p1
      have HJ := Lib.hid hq; clear hq
      have hgr : g < wr.heap.size := by have := Below.size hBB; omega
      have HJJ := Lib.hid hj; clear hj
      cases hd : befB q x
      case false =>
        have HBF := Lib.hid hd; clear hd
        have HI2 : Hid (∀ i (h : i < L.length), j ≤ i → befB L[i] x = false) := Lib.hid (fun i h hji => by
          by_cases e : i = j
          · subst e; rw [HJ.out]; exact HBF.out
          · exact HI.out i h (by have := HJJ.out; omega))
        go_upto_region 2 with fail
        have l_b3 := b3.lt
        obtain ⟨e0, e1, f3⟩ := blk2c b3
        refine wp_region_b 12 (by kernel_rfl) (by kernel_rfl) ?_; simp only [List.take, List.drop]
        repeat (first
          | (apply StepsD.run
             · go_simp
               done
             · intro w' hS K hK
               have hc := (bcell hS).1
               have hf := (bcell hS).2
               have hz := hS.size
               try simp at hz
               go_simp
               try go_bits
               first
                 | exact hK _ hS
                 | (go_at_call 56; (with_reducible refine (before_any (_, _) (_, _) _).mono ?_); rw [HBF.out]; rintro e w1 ⟨rfl, hB1⟩; obtain ⟨hc1, hf1⟩ := bcell hB1; have hz1 := hB1.size; (try simp at hz1); exact hK _ (Below.trans hS (Below.mono hB1 (by first | exact Nat.le_refl _ | (simp; done) | (simp; omega) | omega))))
                 | exact hK _ (by repeat (first | (with_reducible exact Below.refl _ _) | (with_reducible assumption) | ((with_reducible refine Below.setCell ?_ ?_ _); rotate_left; · (first | exact Nat.le_refl _ | (simp; done) | (simp; omega) | omega)) | ((with_reducible refine Below.alloc ?_ ?_ _); rotate_left; · (first | exact Nat.le_refl _ | (simp; done) | (simp; omega) | omega)) | (with_reducible apply Below.drew) | (with_reducible apply below_drewN') | (refine Below.trans ?_ (Below.mono (by assumption) (by first | exact Nat.le_refl _ | (simp; done) | (simp; omega) | omega))) | exact Below.refl _ _ | assumption))
             · simp [Act.put]
               done)
          | (apply StepsD.pass
             · go_simp
               done
             · simp only [Act.put, List.setIfInBounds_toArray, List.set_cons_succ, List.set_cons_zero]
               rfl))
        refine StepsD.done ?_
        intro w1 hS
        replace b3 := b3.gr hS
        replace hown := own_below hown hS
        replace hBB := hBB.trans (Below.mono hS (Below.size hBB))
        clear hS e0 e1 f3 l_b3 jp p0 p1
        go_wp2
        exact ⟨⟨j, by omega, by go_num, HI2, hown, b3, hBB⟩, by simp [intOf]; omega⟩
      case' true =>
        have HBF := Lib.hid hd; clear hd
        have H2 : Hid (∀ j (h : j < L.length), j + 1 = k → befB L[j] x = true) := Lib.hid (fun i hi e => by
          obtain rfl : i = j := by have := HJJ.out; omega
          rw [HJ.out]; exact HBF.out)
        go_upto_region 2 with fail
        have l_b3 := b3.lt
        obtain ⟨e0, e1, f3⟩ := blk2c b3
        refine wp_region_b 12 (by kernel_rfl) (by kernel_rfl) ?_; simp only [List.take, List.drop]
        repeat (first
          | (apply StepsD.run
             · go_simp
               done
             · intro w' hS K hK
               have hc := (bcell hS).1
               have hf := (bcell hS).2
               have hz := hS.size
               try simp at hz
               go_simp
               try go_bits
               first
                 | exact hK _ hS
                 | (go_at_call 56; (with_reducible refine (before_any (_, _) (_, _) _).mono ?_); rw [HBF.out]; rintro e w1 ⟨rfl, hB1⟩; obtain ⟨hc1, hf1⟩ := bcell hB1; have hz1 := hB1.size; (try simp at hz1); exact hK _ (Below.trans hS (Below.mono hB1 (by first | exact Nat.le_refl _ | (simp; done) | (simp; omega) | omega))))
                 | exact hK _ (by repeat (first | (with_reducible exact Below.refl _ _) | (with_reducible assumption) | ((with_reducible refine Below.setCell ?_ ?_ _); rotate_left; · (first | exact Nat.le_refl _ | (simp; done) | (simp; omega) | omega)) | ((with_reducible refine Below.alloc ?_ ?_ _); rotate_left; · (first | exact Nat.le_refl _ | (simp; done) | (simp; omega) | omega)) | (with_reducible apply Below.drew) | (with_reducible apply below_drewN') | (refine Below.trans ?_ (Below.mono (by assumption) (by first | exact Nat.le_refl _ | (simp; done) | (simp; omega) | omega))) | exact Below.refl _ _ | assumption))
             · simp [Act.put]
               done)
          | (apply StepsD.pass
             · go_simp
               done
             · simp only [Act.put, List.setIfInBounds_toArray, List.set_cons_succ, List.set_cons_zero]
               rfl))
        refine StepsD.done ?_
        intro w1 hS
        replace b3 := b3.gr hS
        replace hown := own_below hown hS
        replace hBB := hBB.trans (Below.mono hS (Below.size hBB))
        clear hS e0 e1 f3 l_b3 jp p0 p1 ej HBF HJ HJJ hjl hgr
    all_goals
      have hg1 : g < w1.heap.size := by have := Below.size hBB; omega
      obtain ⟨e0, e1, f3⟩ := blk2c b3
      have l_b3 := b3.lt
      by_cases hkl : k < L.length
      case' pos =>
        obtain ⟨p0, p1⟩ := rowCell hown hkl
        have jp : decide ((k : Int) < (L.length : Int)) = true := by simp; omega
        by_cases hf : L[k] = x
        case pos =>
          rw [hf] at p0 p1
          have hq := eq_cell_same x.1 x.2
          have HM : Hid (x ∈ L) := Lib.hid (hf ▸ List.getElem_mem hkl)
          clear hf
          go_upto_region 4 with fail
          refine wp_region_b 12 (by kernel_rfl) (by kernel_rfl) ?_; simp only [List.take, List.drop]
          repeat (first
            | (apply StepsD.run
               · go_simp
                 done
               · intro w' hS K hK
                 have hc := (bcell hS).1
                 have hf := (bcell hS).2
                 have hz := hS.size
                 try simp at hz
                 go_simp
                 try go_bits
                 first
                   | exact hK _ hS
                   | exact hK _ (by repeat (first | (with_reducible exact Below.refl _ _) | (with_reducible assumption) | ((with_reducible refine Below.setCell ?_ ?_ _); rotate_left; · (first | exact Nat.le_refl _ | (simp; done) | (simp; omega) | omega)) | ((with_reducible refine Below.alloc ?_ ?_ _); rotate_left; · (first | exact Nat.le_refl _ | (simp; done) | (simp; omega) | omega)) | (with_reducible apply Below.drew) | (with_reducible apply below_drewN') | (refine Below.trans ?_ (Below.mono (by assumption) (by first | exact Nat.le_refl _ | (simp; done) | (simp; omega) | omega))) | exact Below.refl _ _ | assumption))
               · simp [Act.put]
                 done)
            | (apply StepsD.pass
               · go_simp
                 done
               · simp only [Act.put, List.setIfInBounds_toArray, List.set_cons_succ, List.set_cons_zero]
                 rfl))
          refine StepsD.done ?_
          intro w2 hS
          replace hown := own_below hown hS
          replace hBB := hBB.trans (Below.mono hS (Below.size hBB))
          clear hS
          go_wp2
          go_ret
          exact ⟨_, L, rfl, HA.out, fun y => ⟨.inr, fun h => h.elim (fun e => e ▸ HM.out) id⟩, by omega, hown, hBB.mono hb⟩
        case' neg =>
          have HNE : Hid (∀ h : k < L.length, L[k] ≠ x) := Lib.hid (fun _ => hf)
          have HQD : (decide (L[k].1 = x.1) && decide (L[k].2 = x.2)) = false := by
            cases hc : (decide (L[k].1 = x.1) && decide (L[k].2 = x.2))
            · rfl
            · simp at hc; exact absurd (Prod.ext hc.1 hc.2) hf
          have hq := fun w => (eq_cell L[k].1 L[k].2 x.1 x.2 w).trans (by rw [HQD])
          generalize L[k] = q at p0 p1 hq HQD
          clear hf HQD
          go_upto_region 4 with fail
          refine wp_region_b 12 (by kernel_rfl) (by kernel_rfl) ?_; simp only [List.take, List.drop]
          repeat (first
            | (apply StepsD.run
               · go_simp
                 done
               · intro w' hS K hK
                 have hc := (bcell hS).1
                 have hf := (bcell hS).2
                 have hz := hS.size
                 try simp at hz
                 go_simp
                 try go_bits
                 first
                   | exact hK _ hS
                   | exact hK _ (by repeat (first | (with_reducible exact Below.refl _ _) | (with_reducible assumption) | ((with_reducible refine Below.setCell ?_ ?_ _); rotate_left; · (first | exact Nat.le_refl _ | (simp; done) | (simp; omega) | omega)) | ((with_reducible refine Below.alloc ?_ ?_ _); rotate_left; · (first | exact Nat.le_refl _ | (simp; done) | (simp; omega) | omega)) | (with_reducible apply Below.drew) | (with_reducible apply below_drewN') | (refine Below.trans ?_ (Below.mono (by assumption) (by first | exact Nat.le_refl _ | (simp; done) | (simp; omega) | omega))) | exact Below.refl _ _ | assumption))
               · simp [Act.put]
                 done)
            | (apply StepsD.pass
               · go_simp
                 done
               · simp only [Act.put, List.setIfInBounds_toArray, List.set_cons_succ, List.set_cons_zero]
                 rfl))
          refine StepsD.done ?_
          intro w2 hS
          replace b3 := b3.gr hS
          replace hown := own_below hown hS
          replace hBB := hBB.trans (Below.mono hS (Below.size hBB))
          clear hS hq p0 p1 jp e0 e1 f3 l_b3 hg1
      case' neg =>
        have HNE : Hid (∀ h : k < L.length, L[k] ≠ x) := Lib.hid (fun h => absurd h hkl)
        have jp : decide ((k : Int) < (L.length : Int)) = false := by simp; omega
        go_upto_region 4 with fail
        refine wp_region_b 12 (by kernel_rfl) (by kernel_rfl) ?_; simp only [List.take, List.drop]
        repeat (first
          | (apply StepsD.run
             · go_simp
               done
             · intro w' hS K hK
               have hc := (bcell hS).1
               have hf := (bcell hS).2
               have hz := hS.size
               try simp at hz
               go_simp
               try go_bits
               first
                 | exact hK _ hS
                 | exact hK _ (by repeat (first | (with_reducible exact Below.refl _ _) | (with_reducible assumption) | ((with_reducible refine Below.setCell ?_ ?_ _); rotate_left; · (first | exact Nat.le_refl _ | (simp; done) | (simp; omega) | omega)) | ((with_reducible refine Below.alloc ?_ ?_ _); rotate_left; · (first | exact Nat.le_refl _ | (simp; done) | (simp; omega) | omega)) | (with_reducible apply Below.drew) | (with_reducible apply below_drewN') | (refine Below.trans ?_ (Below.mono (by assumption) (by first | exact Nat.le_refl _ | (simp; done) | (simp; omega) | omega))) | exact Below.refl _ _ | assumption))
             · simp [Act.put]
               done)
          | (apply StepsD.pass
             · go_simp
               done
             · simp only [Act.put, List.setIfInBounds_toArray, List.set_cons_succ, List.set_cons_zero]
               rfl))
        refine StepsD.done ?_
        intro w2 hS
        replace b3 := b3.gr hS
        replace hown := own_below hown hS
        replace hBB := hBB.trans (Below.mono hS (Below.size hBB))
        clear hS jp e0 e1 f3 l_b3 hg1
    all_goals
      obtain ⟨e0, e1, f3⟩ := blk2c b3
      have l_b3 := b3.lt
      have hzw := Below.size hBB
      have HINS : Hid ((insAt L x k).Pairwise (fun x y => befB x y = true) ∧ ∀ y, y ∈ insAt L x k ↔ y = x ∨ y ∈ L) := Lib.hid (ins_ok HA.out hk HI.out (fun h => H2.out (k - 1) (by omega) (by omega)) HNE.out)
      clear HI H2 HNE hkl
      go_wp2_with (at_builtin; refine wpList_append_own_at _ rfl _ _ 36 rfl base 39 i0 (.agg #[.int .i64 0, .int .i64 0]) 2 16 Tryz.underlying36 hi hz0 hz1 hz2 rfl (by decide) (.slice (some ⟨g, 0, none⟩) L.length cap) L.length (cellsC L) rfl (hown.alloc _) ⟨w2.heap.size, 0, none⟩ 1 1 [.int .i64 x.1, .int .i64 x.2] rfl rfl (cell_two_new _ _ _ _) (by simp [Value.oneCell']) (by unfold maxLen; omega) (by omega) (by simp; omega) ?_; intro v2 W5 hown' hgrow _ hat; obtain ⟨g5, cap5, rfl⟩ := ownsRow_succ hown')
      have hg5 : g5 ≠ w.heap.size := by
        rcases hat with h | h
        · have : g5 = g := by simpa [Value.ownBlock] using h
          omega
        · have : g5 = w2.heap.size + 1 := by simpa [Value.ownBlock] using h
          omega
      have hbg5 := (hown'.lt g5 rfl).1
      have b5 := (b3.alloc (.cells #[.int .i64 x.1, .int .i64 x.2] 39)).grown hgrow (fun e => by have := Option.some.inj (show some w.heap.size = some g from e); omega)
      have hB5 : Below base w W5 := ((hBB.alloc hzw (.cells #[.int .i64 x.1, .int .i64 x.2] 39)).mono hb).grown hgrow (by simp; omega) (fun r e => (show g = r by simpa [Value.ownBlock] using e) ▸ hbg)
      have e5 : cellsC L ++ [.int .i64 x.1, .int .i64 x.2] = cellsC (shiftL L x L.length) := by rw [shiftL_end, cellsC_snoc]
      rw [e5] at hown'
      clear hat hgrow hown b3 hBB e0 e1 f3 l_b3 hzw e5
      go_loopw [6] (fun i wr => ∃ j : Nat, k ≤ j ∧ j ≤ L.length ∧ i = .int .i64 j ∧ wr.ownsRow base 39 2 (.slice (some ⟨g5, 0, none⟩) (L.length + 1) cap5) (L.length + 1) (cellsC (shiftL L x j)) ∧ Blk wr w.heap.size 39 #[.int .i64 x.1, .int .i64 x.2] ∧ Below base w wr) (fun i _ => (intOf i).toNat)
      case atStart => exact ⟨L.length, hk, Nat.le_refl _, by go_num, hown', b5, hB5⟩
      case round =>
        clear hown' b5 hB5
        obtain ⟨j, hkj, hjL, rfl, hown, b3, hBB⟩ := hrel
        have hgl := (hown.lt g5 rfl).2
        have hlenS := shiftL_len x hjL
        by_cases hlt : k < j
        · obtain ⟨m, rfl⟩ : ∃ m, j = m + 1 := ⟨j - 1, by omega⟩
          have hm : m < L.length := by omega
          obtain ⟨p0, p1⟩ := rowCell hown (i := m) (by omega)
          obtain ⟨q0, q1⟩ := rowCell hown (i := m + 1) (by omega)
          have hM : (shiftL L x (m + 1))[m]'(by omega) = L[m] := by
            have := shiftL_get x hjL m
            rw [if_pos (by omega), List.getElem?_append_left hm, List.getElem?_eq_getElem hm, List.getElem?_eq_getElem (by omega)] at this
            simpa using this
          rw [hM] at p0 p1
          have f0 := hown.frozenAt ((m + 1) * 2)
          have f1 := hown.frozenAt ((m + 1) * 2 + 1)
          obtain ⟨o1, o2⟩ := own_put hown (k := m + 1) (by omega) L[m]
          rw [shiftL_set x hm] at o1
          have hB1 := below_only hBB o2 (by have := Below.size hBB; omega) hbg5
          have b1 := b3.grown o2 (fun e => hg5 (Option.some.inj e).symm)
          have ej : ((m + 1 : Nat) : Int) - 1 = (m : Int) := by omega
          have jp : decide ((k : Int) < ((m + 1 : Nat) : Int)) = true := by simp; omega
          generalize L[m] = q at *
          generalize (shiftL L x (m + 1))[m + 1] = q' at *
          clear hM hown b3 hBB
          go_wp2
          exact ⟨⟨m, by omega, by omega, by go_num, o1, b1, hB1⟩, by first | (simp [intOf]; done) | (simp [intOf]; omega)⟩
        · obtain rfl : j = k := by omega
          obtain ⟨e0, e1, f3⟩ := blk2c b3
          have l_b3 := b3.lt
          obtain ⟨q0, q1⟩ := rowCell hown (i := j) (by omega)
          have f0 := hown.frozenAt (j * 2)
          have f1 := hown.frozenAt (j * 2 + 1)
          obtain ⟨o1, o2⟩ := own_put hown (k := j) (by omega) x
          rw [shiftL_done x hjL] at o1
          have hB1 := below_only hBB o2 (by have := Below.size hBB; omega) hbg5
          have jp : decide ((j : Int) < (j : Int)) = false := by simp
          have hli : (insAt L x j).length = L.length + 1 := by unfold insAt; simp; omega
          generalize (shiftL L x j)[j] = q' at *
          clear hown b3 hBB
          go_wp2
          go_ret
          exact ⟨_, insAt L x j, rfl, HINS.out.1, HINS.out.2, by omega, by rw [hli]; exact o1, hB1⟩

set_option maxRecDepth 100000 in
set_option maxHeartbeats 4000000 in
theorem put_nil (base : Nat) (A : Option Addr) (cap : Nat) (x : Int × Int) (w : World) (hown : w.ownsRow base 39 2 (.slice A 0 cap) 0 []) (hb : base ≤ w.heap.size) :
    Calls Tryz.prog 25 #[.slice A 0 cap, .agg #[.int .i64 x.1, .int .i64 x.2]] w fun e w' => ∃ v', e = .returned v' ∧ w'.ownsRow base 39 2 v' 1 (cellsC [x]) ∧ Below base w w' := by
  obtain ⟨i0, hi, hz0, hz1, hz2⟩ := info_parts infoCell
  have hlt := fun g h => hown.lt g h
  have b3 := Blk.new w 39 #[.int .i64 x.1, .int .i64 x.2]
  have hBB : Below w.heap.size w (w.alloc (.cells #[.int .i64 x.1, .int .i64 x.2] 39)) := (by repeat (first | (with_reducible exact Below.refl _ _) | (with_reducible assumption) | ((with_reducible refine Below.setCell ?_ ?_ _); rotate_left; · (first | exact Nat.le_refl _ | (simp; done) | (simp; omega) | omega)) | ((with_reducible refine Below.alloc ?_ ?_ _); rotate_left; · (first | exact Nat.le_refl _ | (simp; done) | (simp; omega) | omega)) | (with_reducible apply Below.drew) | (with_reducible apply below_drewN') | (refine Below.trans ?_ (Below.mono (by assumption) (by first | exact Nat.le_refl _ | (simp; done) | (simp; omega) | omega))) | exact Below.refl _ _ | assumption))
  have hwn := hown.alloc (.cells #[.int .i64 x.1, .int .i64 x.2] 39)
  clear hown
  go_enter Tryz.func25, Tryz.ntmps25
  go_wp2
  generalize (w.alloc (.cells #[.int .i64 x.1, .int .i64 x.2] 39)) = W at *
  go_loopw [5] (fun i wr => i = .int .i64 (0 : Nat) ∧ wr.ownsRow base 39 2 (.slice A 0 cap) 0 [] ∧ Blk wr w.heap.size 39 #[.int .i64 x.1, .int .i64 x.2] ∧ Below w.heap.size w wr) (fun i _ => 0)
  case atStart => exact ⟨by go_num, hwn, b3, hBB⟩
  case round =>
    clear b3 hBB hwn
    obtain ⟨rfl, hown, b3, hBB⟩ := hrel
    have l_b3 := b3.lt
    obtain ⟨e0, e1, f3⟩ := blk2c b3
    have jp : decide ((0 : Int) < ((0 : Nat) : Int)) = false := by simp
    go_upto_region 2 with fail
    refine wp_region_b 12 (by kernel_rfl) (by kernel_rfl) ?_; simp only [List.take, List.drop]
    repeat (first
      | (apply StepsD.run
         · go_simp
           done
         · intro w' hS K hK
           have hc := (bcell hS).1
           have hf := (bcell hS).2
           have hz := hS.size
           try simp at hz
           go_simp
           try go_bits
           first
             | exact hK _ hS
             | exact hK _ (by repeat (first | (with_reducible exact Below.refl _ _) | (with_reducible assumption) | ((with_reducible refine Below.setCell ?_ ?_ _); rotate_left; · (first | exact Nat.le_refl _ | (simp; done) | (simp; omega) | omega)) | ((with_reducible refine Below.alloc ?_ ?_ _); rotate_left; · (first | exact Nat.le_refl _ | (simp; done) | (simp; omega) | omega)) | (with_reducible apply Below.drew) | (with_reducible apply below_drewN') | (refine Below.trans ?_ (Below.mono (by assumption) (by first | exact Nat.le_refl _ | (simp; done) | (simp; omega) | omega))) | exact Below.refl _ _ | assumption))
         · simp [Act.put]
           done)
      | (apply StepsD.pass
         · go_simp
           done
         · simp only [Act.put, List.setIfInBounds_toArray, List.set_cons_succ, List.set_cons_zero]
           rfl))
    refine StepsD.done ?_
    intro w1 hS
    replace b3 := b3.gr hS
    replace hown := own_below hown hS
    replace hBB := hBB.trans (Below.mono hS (Below.size hBB))
    clear hS e0 e1 f3 l_b3
    obtain ⟨e0, e1, f3⟩ := blk2c b3
    have l_b3 := b3.lt
    go_upto_region 4 with fail
    refine wp_region_b 12 (by kernel_rfl) (by kernel_rfl) ?_; simp only [List.take, List.drop]
    repeat (first
      | (apply StepsD.run
         · go_simp
           done
         · intro w' hS K hK
           have hc := (bcell hS).1
           have hf := (bcell hS).2
           have hz := hS.size
           try simp at hz
           go_simp
           try go_bits
           first
             | exact hK _ hS
             | exact hK _ (by repeat (first | (with_reducible exact Below.refl _ _) | (with_reducible assumption) | ((with_reducible refine Below.setCell ?_ ?_ _); rotate_left; · (first | exact Nat.le_refl _ | (simp; done) | (simp; omega) | omega)) | ((with_reducible refine Below.alloc ?_ ?_ _); rotate_left; · (first | exact Nat.le_refl _ | (simp; done) | (simp; omega) | omega)) | (with_reducible apply Below.drew) | (with_reducible apply below_drewN') | (refine Below.trans ?_ (Below.mono (by assumption) (by first | exact Nat.le_refl _ | (simp; done) | (simp; omega) | omega))) | exact Below.refl _ _ | assumption))
         · simp [Act.put]
           done)
      | (apply StepsD.pass
         · go_simp
           done
         · simp only [Act.put, List.setIfInBounds_toArray, List.set_cons_succ, List.set_cons_zero]
           rfl))
    refine StepsD.done ?_
    intro w2 hS
    replace b3 := b3.gr hS
    replace hown := own_below hown hS
    replace hBB := hBB.trans (Below.mono hS (Below.size hBB))
    clear hS e0 e1 f3 l_b3
    obtain ⟨e0, e1, f3⟩ := blk2c b3
    have l_b3 := b3.lt
    have hzw := Below.size hBB
    go_wp2_with (at_builtin; refine wpList_append_own_at _ rfl _ _ 36 rfl base 39 i0 (.agg #[.int .i64 0, .int .i64 0]) 2 16 Tryz.underlying36 hi hz0 hz1 hz2 rfl (by decide) (.slice A 0 cap) 0 [] rfl (hown.alloc _) ⟨w2.heap.size, 0, none⟩ 1 1 [.int .i64 x.1, .int .i64 x.2] rfl rfl (cell_two_new _ _ _ _) (by simp [Value.oneCell']) (by unfold maxLen; omega) (by omega) (by simp; omega) ?_; intro v2 W5 hown' hgrow _ hat; obtain ⟨g5, cap5, rfl⟩ := ownsRow_succ hown')
    have hbg5 := (hown'.lt g5 rfl).1
    have b5 := (b3.alloc (.cells #[.int .i64 x.1, .int .i64 x.2] 39)).grown hgrow (fun e => by have := (hlt _ e.symm).2; omega)
    have hB5 : Below base w W5 := ((hBB.alloc hzw (.cells #[.int .i64 x.1, .int .i64 x.2] 39)).mono hb).grown hgrow (by simp; omega) (fun r e => (hlt _ e).1)
    have hown5 : W5.ownsRow base 39 2 (.slice (some ⟨g5, 0, none⟩) 1 cap5) 1 (cellsC [x]) := hown'
    have hg5 : g5 ≠ w.heap.size := by
      rcases hat with h | h
      · have := (hlt g5 (by rw [← h]; rfl)).2
        omega
      · have : g5 = w2.heap.size + 1 := by simpa [Value.ownBlock] using h
        omega
    clear hat hgrow hown hown' b3 hBB e0 e1 f3 l_b3
    go_loopw [6] (fun i wr => i = .int .i64 (0 : Nat) ∧ wr = W5) (fun i _ => 0)
    case atStart => exact ⟨by go_num, rfl⟩
    case round =>
      obtain ⟨rfl, rfl⟩ := hrel
      obtain ⟨e0, e1, f3⟩ := blk2c b5
      have l_b3 := b5.lt
      have hgl := (hown5.lt g5 rfl).2
      obtain ⟨q0, q1⟩ := rowCell hown5 (i := 0) (by simp)
      have f0 := hown5.frozenAt (0 * 2)
      have f1 := hown5.frozenAt (0 * 2 + 1)
      obtain ⟨o1, o2⟩ := own_put hown5 (k := 0) (by simp) x
      have hB1 := below_only hB5 o2 (by have := Below.size hB5; omega) hbg5
      have jp : decide (((0 : Nat) : Int) < ((0 : Nat) : Int)) = false := by simp
      have jq : decide ((0 : Int) < (0 : Int)) = false := by simp
      clear hown5 b5 hB5
      go_wp2
      go_ret
      exact ⟨_, rfl, o1, hB1⟩

theorem put_any (base : Nat) (A : Option Addr) (L : List (Int × Int)) (cap : Nat) (x : Int × Int) (w : World) (hown : w.ownsRow base 39 2 (.slice A L.length cap) L.length (cellsC L)) (hb : base ≤ w.heap.size) (ha : L.Pairwise fun x y => befB x y = true) (hl : L.length ≤ 100000) :
    Calls Tryz.prog 25 #[.slice A L.length cap, .agg #[.int .i64 x.1, .int .i64 x.2]] w fun e w' => ∃ v' L', e = .returned v' ∧ L'.Pairwise (fun x y => befB x y = true) ∧ (∀ y, y ∈ L' ↔ y = x ∨ y ∈ L) ∧ L'.length ≤ L.length + 1 ∧ w'.ownsRow base 39 2 v' L'.length (cellsC L') ∧ Below base w w' := by
  cases L with
  | nil => exact (put_nil base A cap x w hown hb).mono fun e w' ⟨v', h1, h2, h3⟩ => ⟨v', [x], h1, by simp, by simp, by simp, h2, h3⟩
  | cons q t =>
    obtain ⟨g, cap', hv, _, _⟩ := hown.form (by simp)
    obtain ⟨rfl, rfl⟩ : A = some ⟨g, 0, none⟩ ∧ cap = cap' := by injection hv with h1 h2 h3; exact ⟨h1, h3⟩
    exact put_pos base g (q :: t) cap x w hown hb ha hl (by simp)
end Go.Proofs.YtclpljbllnhhbaaGreat

namespace Go.Proofs.YtclpljbllnhhbaaGreat
open Go.RowKit

/-- The cell has been looked at: in an earlier scan, or in the i-th one up to a row and a column. -/
def seenC (l : List Sc) (i : Nat) (r c : Int) (y : Int × Int) : Prop := (∃ (j : Nat) (s : Sc), j < i ∧ l[j]? = some s ∧ inB s y.1 y.2 = true) ∨ (∃ s, l[i]? = some s ∧ inB s y.1 y.2 = true ∧ (y.1 - s.row < r ∨ (y.1 - s.row = r ∧ y.2 - s.col < c)))
structure CelI (l : List Sc) (level : Int) (i r c : Nat) (L : List (Int × Int)) : Prop where
  asc : L.Pairwise fun x y => befB x y = true
  mem : ∀ y, y ∈ L ↔ seenC l i r c y ∧ level ≤ atV l y.1 y.2
  len : L.length ≤ i * 600 + r * 24 + c
theorem CelI.start (l : List Sc) (level : Int) : CelI l level 0 0 0 [] := by
  refine ⟨by simp, fun y => ⟨fun h => (by cases h), ?_⟩, by simp⟩
  rintro ⟨⟨j, _, hj, _⟩ | ⟨s, _, hi, h⟩, _⟩
  · omega
  · simp [inB, wi] at hi; omega
theorem CelI.skip {l : List Sc} {level : Int} {i r c : Nat} {L : List (Int × Int)} {s : Sc} (h : CelI l level i r c L) (hs : l[i]? = some s) (hlt : atV l (s.row + r) (s.col + c) < level) : CelI l level i r (c + 1) L := by
  refine ⟨h.asc, fun y => ?_, by have := h.len; omega⟩
  rw [h.mem]
  constructor
  · rintro ⟨h1, h2⟩
    refine ⟨?_, h2⟩
    rcases h1 with h1 | ⟨t, ht, hi, hh⟩
    · exact .inl h1
    · exact .inr ⟨t, ht, hi, by omega⟩
  · rintro ⟨h1, h2⟩
    refine ⟨?_, h2⟩
    rcases h1 with h1 | ⟨t, ht, hi, hh⟩
    · exact .inl h1
    · refine .inr ⟨t, ht, hi, ?_⟩
      rw [hs] at ht
      obtain rfl : s = t := by simpa using ht
      rcases hh with hh | ⟨hr, hc⟩
      · exact .inl hh
      · refine .inr ⟨hr, ?_⟩
        rcases (by omega : y.2 - s.col < (c : Int) ∨ y.2 - s.col = (c : Int)) with h3 | h3
        · exact h3
        · rw [show s.row + (r : Int) = y.1 by omega, show s.col + (c : Int) = y.2 by omega] at hlt
          omega
theorem CelI.put {l : List Sc} {level : Int} {i r c : Nat} {L L' : List (Int × Int)} {s : Sc} (h : CelI l level i r c L) (hs : l[i]? = some s) (hr : (r : Int) < s.rows) (hc : (c : Int) < s.cols) (hge : level ≤ atV l (s.row + r) (s.col + c)) (ha : L'.Pairwise fun x y => befB x y = true) (hm : ∀ y, y ∈ L' ↔ y = (s.row + (r : Int), s.col + (c : Int)) ∨ y ∈ L) (hl : L'.length ≤ L.length + 1) : CelI l level i r (c + 1) L' := by
  refine ⟨ha, fun y => ?_, by have := h.len; omega⟩
  rw [hm, h.mem]
  constructor
  · rintro (rfl | ⟨h1, h2⟩)
    · refine ⟨.inr ⟨s, hs, ?_, .inr ⟨by dsimp only; omega, by dsimp only; omega⟩⟩, hge⟩
      simp [inB, wi]; omega
    · refine ⟨?_, h2⟩
      rcases h1 with h1 | ⟨t, ht, hi, hh⟩
      · exact .inl h1
      · exact .inr ⟨t, ht, hi, by omega⟩
  · rintro ⟨h1, h2⟩
    rcases h1 with h1 | ⟨t, ht, hi, hh⟩
    · exact .inr ⟨.inl h1, h2⟩
    · have ht' := ht
      rw [hs] at ht
      obtain rfl : s = t := by simpa using ht
      rcases hh with hh | ⟨h3, h4⟩
      · exact .inr ⟨.inr ⟨s, ht', hi, .inl hh⟩, h2⟩
      · rcases (by omega : y.2 - s.col < (c : Int) ∨ y.2 - s.col = (c : Int)) with h5 | h5
        · exact .inr ⟨.inr ⟨s, ht', hi, .inr ⟨h3, h5⟩⟩, h2⟩
        · exact .inl (Prod.ext (by dsimp only; omega) (by dsimp only; omega))
set_option maxRecDepth 100000 in
theorem CelI.row {l : List Sc} {level : Int} {i r c : Nat} {L : List (Int × Int)} {s : Sc} (h : CelI l level i r c L) (hs : l[i]? = some s) (hc : (c : Int) = s.cols) (hg : ScGood s) : CelI l level i (r + 1) 0 L := by
  have hl : L.length ≤ i * 600 + (r + 1) * 24 + 0 := by
    have h1 := h.len
    have h2 := hg.cols
    omega
  refine ⟨h.asc, fun y => ?_, hl⟩
  rw [h.mem]
  constructor
  · rintro ⟨h1, h2⟩
    refine ⟨?_, h2⟩
    rcases h1 with h1 | ⟨t, ht, hi, hh⟩
    · exact .inl h1
    · exact .inr ⟨t, ht, hi, by omega⟩
  · rintro ⟨h1, h2⟩
    refine ⟨?_, h2⟩
    rcases h1 with h1 | ⟨t, ht, hi, hh⟩
    · exact .inl h1
    · refine .inr ⟨t, ht, hi, ?_⟩
      rw [hs] at ht
      obtain rfl : s = t := by simpa using ht
      simp [inB, wi] at hi
      omega
set_option maxRecDepth 100000 in
theorem CelI.scan {l : List Sc} {level : Int} {i r : Nat} {L : List (Int × Int)} {s : Sc} (h : CelI l level i r 0 L) (hs : l[i]? = some s) (hr : (r : Int) = s.rows) (hg : ScGood s) : CelI l level (i + 1) 0 0 L := by
  have hl : L.length ≤ (i + 1) * 600 + 0 * 24 + 0 := by
    have h1 := h.len
    have h2 := hg.rows
    omega
  refine ⟨h.asc, fun y => ?_, hl⟩
  rw [h.mem]
  constructor
  · rintro ⟨h1, h2⟩
    refine ⟨?_, h2⟩
    rcases h1 with ⟨j, t, hj, ht, hi⟩ | ⟨t, ht, hi, hh⟩
    · exact .inl ⟨j, t, by omega, ht, hi⟩
    · exact .inl ⟨i, t, by omega, ht, hi⟩
  · rintro ⟨h1, h2⟩
    refine ⟨?_, h2⟩
    rcases h1 with ⟨j, t, hj, ht, hi⟩ | ⟨t, ht, hi, hh⟩
    · by_cases e : j = i
      · subst e
        refine .inr ⟨t, ht, hi, ?_⟩
        rw [hs] at ht
        obtain rfl : s = t := by simpa using ht
        simp [inB, wi] at hi
        omega
      · exact .inl ⟨j, t, by omega, ht, hi⟩
    · simp [inB, wi] at hi; omega
theorem CelI.done {l : List Sc} {level : Int} {L : List (Int × Int)} (h : CelI l level l.length 0 0 L) (hl : 0 ≤ level) : Pls (atV l) level L := by
  refine ⟨h.asc, fun y => ?_⟩
  rw [h.mem, abv_iff]
  constructor
  · rintro ⟨_, h2⟩
    exact ⟨by omega, h2⟩
  · rintro ⟨h1, h2⟩
    refine ⟨?_, h2⟩
    obtain ⟨s, hs, hi⟩ := known_in h1
    obtain ⟨j, hj, e⟩ := List.getElem_of_mem hs
    exact .inl ⟨j, s, hj, by rw [List.getElem?_eq_getElem hj, e], hi⟩
/-- The cells so far, in memory. -/
structure CelM (w : World) (v : Value) (L : List (Int × Int)) (W : World) : Prop where
  row : W.ownsRow w.heap.size 39 2 v L.length (cellsC L)
  below : Below w.heap.size w W
theorem CelM.gr {w W W' : World} {v : Value} {L : List (Int × Int)} (h : CelM w v L W) (hk : Gr W W') : CelM w v L W' :=
  ⟨own_below h.row hk, h.below.trans (Below.mono hk (Below.size h.below))⟩
/-- A scan, where it lies. -/
structure ScAt (W : World) (g p : Nat) (s : Sc) : Prop where
  c0 : W.cell? ⟨g, p, none⟩ = some (.int .i64 s.row)
  c1 : W.cell? ⟨g, p + 1, none⟩ = some (.int .i64 s.col)
  c2 : W.cell? ⟨g, p + 2, none⟩ = some (.int .i64 s.rows)
  c3 : W.cell? ⟨g, p + 3, none⟩ = some (.int .i64 s.cols)
  lt : g < W.heap.size
theorem ScAt.below {W W' : World} {g p B : Nat} {s : Sc} (h : ScAt W g p s) (hb : Below B W W') (hg : g < B) : ScAt W' g p s :=
  ⟨(hb.cell (p := ⟨g, p, none⟩) hg).trans h.c0, (hb.cell (p := ⟨g, p + 1, none⟩) hg).trans h.c1, (hb.cell (p := ⟨g, p + 2, none⟩) hg).trans h.c2, (hb.cell (p := ⟨g, p + 3, none⟩) hg).trans h.c3, by have := Below.size hb; have := h.lt; omega⟩

set_option maxRecDepth 100000 in
set_option maxHeartbeats 4000000 in
/-- The cell of a row and a column (region 11). -/
theorem cellsReg11 {w : World} {g o k n cap r c : Nat} (s : Sc) (hs : ScAt w g (o + k * 5) s) (hk : k < n) (hsr : -100000 ≤ s.row ∧ s.row ≤ 100000) (hsc : -100000 ≤ s.col ∧ s.col ≤ 100000) (hr : (r : Int) ≤ 24) (hc : (c : Int) ≤ 24) {t1 t2 t3 t4 t5 t9 t10 t11 t12 t13 t14 t15 t16 t17 t18 t19 t20 t21 t22 t23 t24 t25 t26 t27 t28 t29 t30 t31 t32 t33 t34 t35 t36 t37 t38 t39 t40 t41 t42 t43 t44 t45 t46 t47 t48 t49 t50 t51 t52 t53 t54 t55 t56 t57 : Value} {ds : List Deferred} (Q : Exit → Act → World → Prop)
    (h : ∀ (t34 t35 t36 t37 t38 t39 t40 t41 t42 t43 t44 t45 t46 t47 t48 : Value) (N : Nat) (w' : World), w.heap.size ≤ N → Blk w' N 39 #[.int .i64 (s.row + r), .int .i64 (s.col + c)] → Gr w w' → Q .normal ⟨#[.slice (some ⟨g, o, none⟩) n cap, t1, t2, t3, t4, t5, .int .i64 (k : Int), .int .i64 (r : Int), .int .i64 (c : Int), .pointer (some ⟨N, 0, none⟩), t10, t11, t12, t13, t14, t15, t16, t17, t18, t19, t20, t21, t22, t23, t24, t25, t26, t27, t28, t29, t30, t31, t32, t33, t34, t35, t36, t37, t38, t39, t40, t41, t42, t43, t44, t45, t46, t47, t48, t49, t50, t51, t52, t53, t54, t55, t56, t57], ds⟩ w') :
    (regOf Tryz.f9 11).wp Tryz.prog Q ⟨#[.slice (some ⟨g, o, none⟩) n cap, t1, t2, t3, t4, t5, .int .i64 (k : Int), .int .i64 (r : Int), .int .i64 (c : Int), t9, t10, t11, t12, t13, t14, t15, t16, t17, t18, t19, t20, t21, t22, t23, t24, t25, t26, t27, t28, t29, t30, t31, t32, t33, t34, t35, t36, t37, t38, t39, t40, t41, t42, t43, t44, t45, t46, t47, t48, t49, t50, t51, t52, t53, t54, t55, t56, t57], ds⟩ w := by
  have H := Lib.hid h; clear h
  obtain ⟨c0, c1, c2, c3, hlt⟩ := hs
  have i1 : ((k : Int) < (n : Int)) := by omega
  conv in (regOf _ _) => whnf
  refine wp_region_w (Gr _) (by kernel_rfl) (Below.refl _ _).drew ?_
  refine wpW_det (t' := ?ct0R70) 0 (by rfl) (by kernel_rfl) (NQ_free _) (by kernel_rfl) ?cw0R70 ?ch0R70 ?ca0R70 (Eq.refl _) ?cH0R70
  case cw0R70 => (go_simp; done)
  case ch0R70 =>
    intro ds w' hS K hK
    have hc := (bcell hS).1
    have hf := (bcell hS).2
    have hz := hS.size
    try simp at hz
    go_simp
    try go_bits
    first
      | exact hK _ hS (Gr.refl _)
      | exact hK _ (by repeat (first | (with_reducible exact Below.refl _ _) | (with_reducible assumption) | ((with_reducible refine Below.setCell ?_ ?_ _); rotate_left; · (first | exact Nat.le_refl _ | (simp; done) | (simp; omega) | omega)) | ((with_reducible refine Below.alloc ?_ ?_ _); rotate_left; · (first | exact Nat.le_refl _ | (simp; done) | (simp; omega) | omega)) | (with_reducible apply Below.drew) | (with_reducible apply below_drewN') | (refine Below.trans ?_ (Below.mono (by assumption) (by first | exact Nat.le_refl _ | (simp; done) | (simp; omega) | omega))) | exact Below.refl _ _ | assumption)) (by repeat (first | (with_reducible exact Below.refl _ _) | (with_reducible assumption) | ((with_reducible refine Below.setCell ?_ ?_ _); rotate_left; · (first | exact Nat.le_refl _ | (simp; done) | (simp; omega) | omega)) | ((with_reducible refine Below.alloc ?_ ?_ _); rotate_left; · (first | exact Nat.le_refl _ | (simp; done) | (simp; omega) | omega)) | (with_reducible apply Below.drew) | (with_reducible apply below_drewN') | (refine Below.trans ?_ (Below.mono (by assumption) (by first | exact Nat.le_refl _ | (simp; done) | (simp; omega) | omega))) | exact Below.refl _ _ | assumption))
  case ca0R70 => (first | (simp [Act.put]; done) | (simp [Act.put, *]; done))
  try dsimp only
  refine wpW_det (t' := ?ct1R70) 1 (by rfl) (by kernel_rfl) (NQ_free _) (by kernel_rfl) ?cw1R70 ?ch1R70 ?ca1R70 (Eq.refl _) ?cH1R70
  case cw1R70 => (go_simp; done)
  case ch1R70 =>
    intro ds w' hS K hK
    have hc := (bcell hS).1
    have hf := (bcell hS).2
    have hz := hS.size
    try simp at hz
    go_simp
    try go_bits
    first
      | exact hK _ hS (Gr.refl _)
      | exact hK _ (by repeat (first | (with_reducible exact Below.refl _ _) | (with_reducible assumption) | ((with_reducible refine Below.setCell ?_ ?_ _); rotate_left; · (first | exact Nat.le_refl _ | (simp; done) | (simp; omega) | omega)) | ((with_reducible refine Below.alloc ?_ ?_ _); rotate_left; · (first | exact Nat.le_refl _ | (simp; done) | (simp; omega) | omega)) | (with_reducible apply Below.drew) | (with_reducible apply below_drewN') | (refine Below.trans ?_ (Below.mono (by assumption) (by first | exact Nat.le_refl _ | (simp; done) | (simp; omega) | omega))) | exact Below.refl _ _ | assumption)) (by repeat (first | (with_reducible exact Below.refl _ _) | (with_reducible assumption) | ((with_reducible refine Below.setCell ?_ ?_ _); rotate_left; · (first | exact Nat.le_refl _ | (simp; done) | (simp; omega) | omega)) | ((with_reducible refine Below.alloc ?_ ?_ _); rotate_left; · (first | exact Nat.le_refl _ | (simp; done) | (simp; omega) | omega)) | (with_reducible apply Below.drew) | (with_reducible apply below_drewN') | (refine Below.trans ?_ (Below.mono (by assumption) (by first | exact Nat.le_refl _ | (simp; done) | (simp; omega) | omega))) | exact Below.refl _ _ | assumption))
  case ca1R70 => (first | (simp [Act.put]; done) | (simp [Act.put, *]; done))
  try dsimp only
  refine wpW_det (t' := ?ct2R70) 2 (by rfl) (by kernel_rfl) (NQ_free _) (by kernel_rfl) ?cw2R70 ?ch2R70 ?ca2R70 (Eq.refl _) ?cH2R70
  case cw2R70 => (go_simp; done)
  case ch2R70 =>
    intro ds w' hS K hK
    have hc := (bcell hS).1
    have hf := (bcell hS).2
    have hz := hS.size
    try simp at hz
    go_simp
    try go_bits
    first
      | exact hK _ hS (Gr.refl _)
      | exact hK _ (by repeat (first | (with_reducible exact Below.refl _ _) | (with_reducible assumption) | ((with_reducible refine Below.setCell ?_ ?_ _); rotate_left; · (first | exact Nat.le_refl _ | (simp; done) | (simp; omega) | omega)) | ((with_reducible refine Below.alloc ?_ ?_ _); rotate_left; · (first | exact Nat.le_refl _ | (simp; done) | (simp; omega) | omega)) | (with_reducible apply Below.drew) | (with_reducible apply below_drewN') | (refine Below.trans ?_ (Below.mono (by assumption) (by first | exact Nat.le_refl _ | (simp; done) | (simp; omega) | omega))) | exact Below.refl _ _ | assumption)) (by repeat (first | (with_reducible exact Below.refl _ _) | (with_reducible assumption) | ((with_reducible refine Below.setCell ?_ ?_ _); rotate_left; · (first | exact Nat.le_refl _ | (simp; done) | (simp; omega) | omega)) | ((with_reducible refine Below.alloc ?_ ?_ _); rotate_left; · (first | exact Nat.le_refl _ | (simp; done) | (simp; omega) | omega)) | (with_reducible apply Below.drew) | (with_reducible apply below_drewN') | (refine Below.trans ?_ (Below.mono (by assumption) (by first | exact Nat.le_refl _ | (simp; done) | (simp; omega) | omega))) | exact Below.refl _ _ | assumption))
  case ca2R70 => (first | (simp [Act.put]; done) | (simp [Act.put, *]; done))
  try dsimp only
  refine wpW_det (t' := ?ct3R70) 3 (by rfl) (by kernel_rfl) (NQ_free _) (by kernel_rfl) ?cw3R70 ?ch3R70 ?ca3R70 (Eq.refl _) ?cH3R70
  case cw3R70 => (go_simp; done)
  case ch3R70 =>
    intro ds w' hS K hK
    have hc := (bcell hS).1
    have hf := (bcell hS).2
    have hz := hS.size
    try simp at hz
    go_simp
    try go_bits
    first
      | exact hK _ hS (Gr.refl _)
      | exact hK _ (by repeat (first | (with_reducible exact Below.refl _ _) | (with_reducible assumption) | ((with_reducible refine Below.setCell ?_ ?_ _); rotate_left; · (first | exact Nat.le_refl _ | (simp; done) | (simp; omega) | omega)) | ((with_reducible refine Below.alloc ?_ ?_ _); rotate_left; · (first | exact Nat.le_refl _ | (simp; done) | (simp; omega) | omega)) | (with_reducible apply Below.drew) | (with_reducible apply below_drewN') | (refine Below.trans ?_ (Below.mono (by assumption) (by first | exact Nat.le_refl _ | (simp; done) | (simp; omega) | omega))) | exact Below.refl _ _ | assumption)) (by repeat (first | (with_reducible exact Below.refl _ _) | (with_reducible assumption) | ((with_reducible refine Below.setCell ?_ ?_ _); rotate_left; · (first | exact Nat.le_refl _ | (simp; done) | (simp; omega) | omega)) | ((with_reducible refine Below.alloc ?_ ?_ _); rotate_left; · (first | exact Nat.le_refl _ | (simp; done) | (simp; omega) | omega)) | (with_reducible apply Below.drew) | (with_reducible apply below_drewN') | (refine Below.trans ?_ (Below.mono (by assumption) (by first | exact Nat.le_refl _ | (simp; done) | (simp; omega) | omega))) | exact Below.refl _ _ | assumption))
  case ca3R70 => (first | (simp [Act.put]; done) | (simp [Act.put, *]; done))
  try dsimp only
  refine wpW_det (t' := ?ct4R70) 4 (by rfl) (by kernel_rfl) (NQ_free _) (by kernel_rfl) ?cw4R70 ?ch4R70 ?ca4R70 (Eq.refl _) ?cH4R70
  case cw4R70 => (go_simp; done)
  case ch4R70 =>
    intro ds w' hS K hK
    have hc := (bcell hS).1
    have hf := (bcell hS).2
    have hz := hS.size
    try simp at hz
    go_simp
    try go_bits
    first
      | exact hK _ hS (Gr.refl _)
      | exact hK _ (by repeat (first | (with_reducible exact Below.refl _ _) | (with_reducible assumption) | ((with_reducible refine Below.setCell ?_ ?_ _); rotate_left; · (first | exact Nat.le_refl _ | (simp; done) | (simp; omega) | omega)) | ((with_reducible refine Below.alloc ?_ ?_ _); rotate_left; · (first | exact Nat.le_refl _ | (simp; done) | (simp; omega) | omega)) | (with_reducible apply Below.drew) | (with_reducible apply below_drewN') | (refine Below.trans ?_ (Below.mono (by assumption) (by first | exact Nat.le_refl _ | (simp; done) | (simp; omega) | omega))) | exact Below.refl _ _ | assumption)) (by repeat (first | (with_reducible exact Below.refl _ _) | (with_reducible assumption) | ((with_reducible refine Below.setCell ?_ ?_ _); rotate_left; · (first | exact Nat.le_refl _ | (simp; done) | (simp; omega) | omega)) | ((with_reducible refine Below.alloc ?_ ?_ _); rotate_left; · (first | exact Nat.le_refl _ | (simp; done) | (simp; omega) | omega)) | (with_reducible apply Below.drew) | (with_reducible apply below_drewN') | (refine Below.trans ?_ (Below.mono (by assumption) (by first | exact Nat.le_refl _ | (simp; done) | (simp; omega) | omega))) | exact Below.refl _ _ | assumption))
  case ca4R70 => (first | (simp [Act.put]; done) | (simp [Act.put, *]; done))
  try dsimp only
  refine wpW_det (t' := ?ct5R70) 5 (by rfl) (by kernel_rfl) (NQ_free _) (by kernel_rfl) ?cw5R70 ?ch5R70 ?ca5R70 (Eq.refl _) ?cH5R70
  case cw5R70 => (go_simp; done)
  case ch5R70 =>
    intro ds w' hS K hK
    have hc := (bcell hS).1
    have hf := (bcell hS).2
    have hz := hS.size
    try simp at hz
    go_simp
    try go_bits
    first
      | exact hK _ hS (Gr.refl _)
      | exact hK _ (by repeat (first | (with_reducible exact Below.refl _ _) | (with_reducible assumption) | ((with_reducible refine Below.setCell ?_ ?_ _); rotate_left; · (first | exact Nat.le_refl _ | (simp; done) | (simp; omega) | omega)) | ((with_reducible refine Below.alloc ?_ ?_ _); rotate_left; · (first | exact Nat.le_refl _ | (simp; done) | (simp; omega) | omega)) | (with_reducible apply Below.drew) | (with_reducible apply below_drewN') | (refine Below.trans ?_ (Below.mono (by assumption) (by first | exact Nat.le_refl _ | (simp; done) | (simp; omega) | omega))) | exact Below.refl _ _ | assumption)) (by repeat (first | (with_reducible exact Below.refl _ _) | (with_reducible assumption) | ((with_reducible refine Below.setCell ?_ ?_ _); rotate_left; · (first | exact Nat.le_refl _ | (simp; done) | (simp; omega) | omega)) | ((with_reducible refine Below.alloc ?_ ?_ _); rotate_left; · (first | exact Nat.le_refl _ | (simp; done) | (simp; omega) | omega)) | (with_reducible apply Below.drew) | (with_reducible apply below_drewN') | (refine Below.trans ?_ (Below.mono (by assumption) (by first | exact Nat.le_refl _ | (simp; done) | (simp; omega) | omega))) | exact Below.refl _ _ | assumption))
  case ca5R70 => (first | (simp [Act.put]; done) | (simp [Act.put, *]; done))
  try dsimp only
  refine wpW_det (t' := ?ct6R70) 6 (by rfl) (by kernel_rfl) (NQ_free _) (by kernel_rfl) ?cw6R70 ?ch6R70 ?ca6R70 (Eq.refl _) ?cH6R70
  case cw6R70 => (go_simp; done)
  case ch6R70 =>
    intro ds w' hS K hK
    have hc := (bcell hS).1
    have hf := (bcell hS).2
    have hz := hS.size
    try simp at hz
    go_simp
    try go_bits
    first
      | exact hK _ hS (Gr.refl _)
      | exact hK _ (by repeat (first | (with_reducible exact Below.refl _ _) | (with_reducible assumption) | ((with_reducible refine Below.setCell ?_ ?_ _); rotate_left; · (first | exact Nat.le_refl _ | (simp; done) | (simp; omega) | omega)) | ((with_reducible refine Below.alloc ?_ ?_ _); rotate_left; · (first | exact Nat.le_refl _ | (simp; done) | (simp; omega) | omega)) | (with_reducible apply Below.drew) | (with_reducible apply below_drewN') | (refine Below.trans ?_ (Below.mono (by assumption) (by first | exact Nat.le_refl _ | (simp; done) | (simp; omega) | omega))) | exact Below.refl _ _ | assumption)) (by repeat (first | (with_reducible exact Below.refl _ _) | (with_reducible assumption) | ((with_reducible refine Below.setCell ?_ ?_ _); rotate_left; · (first | exact Nat.le_refl _ | (simp; done) | (simp; omega) | omega)) | ((with_reducible refine Below.alloc ?_ ?_ _); rotate_left; · (first | exact Nat.le_refl _ | (simp; done) | (simp; omega) | omega)) | (with_reducible apply Below.drew) | (with_reducible apply below_drewN') | (refine Below.trans ?_ (Below.mono (by assumption) (by first | exact Nat.le_refl _ | (simp; done) | (simp; omega) | omega))) | exact Below.refl _ _ | assumption))
  case ca6R70 => (first | (simp [Act.put]; done) | (simp [Act.put, *]; done))
  try dsimp only
  refine wpW_det (t' := ?ct7R70) 7 (by rfl) (by kernel_rfl) (NQ_free _) (by kernel_rfl) ?cw7R70 ?ch7R70 ?ca7R70 (Eq.refl _) ?cH7R70
  case cw7R70 => (go_simp; done)
  case ch7R70 =>
    intro ds w' hS K hK
    have hc := (bcell hS).1
    have hf := (bcell hS).2
    have hz := hS.size
    try simp at hz
    go_simp
    try go_bits
    first
      | exact hK _ hS (Gr.refl _)
      | exact hK _ (by repeat (first | (with_reducible exact Below.refl _ _) | (with_reducible assumption) | ((with_reducible refine Below.setCell ?_ ?_ _); rotate_left; · (first | exact Nat.le_refl _ | (simp; done) | (simp; omega) | omega)) | ((with_reducible refine Below.alloc ?_ ?_ _); rotate_left; · (first | exact Nat.le_refl _ | (simp; done) | (simp; omega) | omega)) | (with_reducible apply Below.drew) | (with_reducible apply below_drewN') | (refine Below.trans ?_ (Below.mono (by assumption) (by first | exact Nat.le_refl _ | (simp; done) | (simp; omega) | omega))) | exact Below.refl _ _ | assumption)) (by repeat (first | (with_reducible exact Below.refl _ _) | (with_reducible assumption) | ((with_reducible refine Below.setCell ?_ ?_ _); rotate_left; · (first | exact Nat.le_refl _ | (simp; done) | (simp; omega) | omega)) | ((with_reducible refine Below.alloc ?_ ?_ _); rotate_left; · (first | exact Nat.le_refl _ | (simp; done) | (simp; omega) | omega)) | (with_reducible apply Below.drew) | (with_reducible apply below_drewN') | (refine Below.trans ?_ (Below.mono (by assumption) (by first | exact Nat.le_refl _ | (simp; done) | (simp; omega) | omega))) | exact Below.refl _ _ | assumption))
  case ca7R70 => (first | (simp [Act.put]; done) | (simp [Act.put, *]; done))
  try dsimp only
  refine wpW_det (t' := ?ct8R70) 8 (by rfl) (by kernel_rfl) (NQ_free _) (by kernel_rfl) ?cw8R70 ?ch8R70 ?ca8R70 (Eq.refl _) ?cH8R70
  case cw8R70 => (go_simp; done)
  case ch8R70 =>
    intro ds w' hS K hK
    have hc := (bcell hS).1
    have hf := (bcell hS).2
    have hz := hS.size
    try simp at hz
    go_simp
    try go_bits
    first
      | exact hK _ hS (Gr.refl _)
      | exact hK _ (by repeat (first | (with_reducible exact Below.refl _ _) | (with_reducible assumption) | ((with_reducible refine Below.setCell ?_ ?_ _); rotate_left; · (first | exact Nat.le_refl _ | (simp; done) | (simp; omega) | omega)) | ((with_reducible refine Below.alloc ?_ ?_ _); rotate_left; · (first | exact Nat.le_refl _ | (simp; done) | (simp; omega) | omega)) | (with_reducible apply Below.drew) | (with_reducible apply below_drewN') | (refine Below.trans ?_ (Below.mono (by assumption) (by first | exact Nat.le_refl _ | (simp; done) | (simp; omega) | omega))) | exact Below.refl _ _ | assumption)) (by repeat (first | (with_reducible exact Below.refl _ _) | (with_reducible assumption) | ((with_reducible refine Below.setCell ?_ ?_ _); rotate_left; · (first | exact Nat.le_refl _ | (simp; done) | (simp; omega) | omega)) | ((with_reducible refine Below.alloc ?_ ?_ _); rotate_left; · (first | exact Nat.le_refl _ | (simp; done) | (simp; omega) | omega)) | (with_reducible apply Below.drew) | (with_reducible apply below_drewN') | (refine Below.trans ?_ (Below.mono (by assumption) (by first | exact Nat.le_refl _ | (simp; done) | (simp; omega) | omega))) | exact Below.refl _ _ | assumption))
  case ca8R70 => (first | (simp [Act.put]; done) | (simp [Act.put, *]; done))
  try dsimp only
  refine wpW_det (t' := ?ct9R70) 9 (by rfl) (by kernel_rfl) (NQ_free _) (by kernel_rfl) ?cw9R70 ?ch9R70 ?ca9R70 (Eq.refl _) ?cH9R70
  case cw9R70 => (go_simp; done)
  case ch9R70 =>
    intro ds w' hS K hK
    have hc := (bcell hS).1
    have hf := (bcell hS).2
    have hz := hS.size
    try simp at hz
    go_simp
    try go_bits
    first
      | exact hK _ hS (Gr.refl _)
      | exact hK _ (by repeat (first | (with_reducible exact Below.refl _ _) | (with_reducible assumption) | ((with_reducible refine Below.setCell ?_ ?_ _); rotate_left; · (first | exact Nat.le_refl _ | (simp; done) | (simp; omega) | omega)) | ((with_reducible refine Below.alloc ?_ ?_ _); rotate_left; · (first | exact Nat.le_refl _ | (simp; done) | (simp; omega) | omega)) | (with_reducible apply Below.drew) | (with_reducible apply below_drewN') | (refine Below.trans ?_ (Below.mono (by assumption) (by first | exact Nat.le_refl _ | (simp; done) | (simp; omega) | omega))) | exact Below.refl _ _ | assumption)) (by repeat (first | (with_reducible exact Below.refl _ _) | (with_reducible assumption) | ((with_reducible refine Below.setCell ?_ ?_ _); rotate_left; · (first | exact Nat.le_refl _ | (simp; done) | (simp; omega) | omega)) | ((with_reducible refine Below.alloc ?_ ?_ _); rotate_left; · (first | exact Nat.le_refl _ | (simp; done) | (simp; omega) | omega)) | (with_reducible apply Below.drew) | (with_reducible apply below_drewN') | (refine Below.trans ?_ (Below.mono (by assumption) (by first | exact Nat.le_refl _ | (simp; done) | (simp; omega) | omega))) | exact Below.refl _ _ | assumption))
  case ca9R70 => (first | (simp [Act.put]; done) | (simp [Act.put, *]; done))
  try dsimp only
  refine wpW_det (t' := ?ct10R70) 10 (by rfl) (by kernel_rfl) (NQ_free _) (by kernel_rfl) ?cw10R70 ?ch10R70 ?ca10R70 (Eq.refl _) ?cH10R70
  case cw10R70 => (go_simp; done)
  case ch10R70 =>
    intro ds w' hS K hK
    have hc := (bcell hS).1
    have hf := (bcell hS).2
    have hz := hS.size
    try simp at hz
    go_simp
    try go_bits
    first
      | exact hK _ hS (Gr.refl _)
      | exact hK _ (by repeat (first | (with_reducible exact Below.refl _ _) | (with_reducible assumption) | ((with_reducible refine Below.setCell ?_ ?_ _); rotate_left; · (first | exact Nat.le_refl _ | (simp; done) | (simp; omega) | omega)) | ((with_reducible refine Below.alloc ?_ ?_ _); rotate_left; · (first | exact Nat.le_refl _ | (simp; done) | (simp; omega) | omega)) | (with_reducible apply Below.drew) | (with_reducible apply below_drewN') | (refine Below.trans ?_ (Below.mono (by assumption) (by first | exact Nat.le_refl _ | (simp; done) | (simp; omega) | omega))) | exact Below.refl _ _ | assumption)) (by repeat (first | (with_reducible exact Below.refl _ _) | (with_reducible assumption) | ((with_reducible refine Below.setCell ?_ ?_ _); rotate_left; · (first | exact Nat.le_refl _ | (simp; done) | (simp; omega) | omega)) | ((with_reducible refine Below.alloc ?_ ?_ _); rotate_left; · (first | exact Nat.le_refl _ | (simp; done) | (simp; omega) | omega)) | (with_reducible apply Below.drew) | (with_reducible apply below_drewN') | (refine Below.trans ?_ (Below.mono (by assumption) (by first | exact Nat.le_refl _ | (simp; done) | (simp; omega) | omega))) | exact Below.refl _ _ | assumption))
  case ca10R70 => (first | (simp [Act.put]; done) | (simp [Act.put, *]; done))
  try dsimp only
  refine wpW_det (t' := ?ct11R70) 11 (by rfl) (by kernel_rfl) (NQ_free _) (by kernel_rfl) ?cw11R70 ?ch11R70 ?ca11R70 (Eq.refl _) ?cH11R70
  case cw11R70 => (go_simp; done)
  case ch11R70 =>
    intro ds w' hS K hK
    have hc := (bcell hS).1
    have hf := (bcell hS).2
    have hz := hS.size
    try simp at hz
    go_simp
    try go_bits
    first
      | exact hK _ hS (Gr.refl _)
      | exact hK _ (by repeat (first | (with_reducible exact Below.refl _ _) | (with_reducible assumption) | ((with_reducible refine Below.setCell ?_ ?_ _); rotate_left; · (first | exact Nat.le_refl _ | (simp; done) | (simp; omega) | omega)) | ((with_reducible refine Below.alloc ?_ ?_ _); rotate_left; · (first | exact Nat.le_refl _ | (simp; done) | (simp; omega) | omega)) | (with_reducible apply Below.drew) | (with_reducible apply below_drewN') | (refine Below.trans ?_ (Below.mono (by assumption) (by first | exact Nat.le_refl _ | (simp; done) | (simp; omega) | omega))) | exact Below.refl _ _ | assumption)) (by repeat (first | (with_reducible exact Below.refl _ _) | (with_reducible assumption) | ((with_reducible refine Below.setCell ?_ ?_ _); rotate_left; · (first | exact Nat.le_refl _ | (simp; done) | (simp; omega) | omega)) | ((with_reducible refine Below.alloc ?_ ?_ _); rotate_left; · (first | exact Nat.le_refl _ | (simp; done) | (simp; omega) | omega)) | (with_reducible apply Below.drew) | (with_reducible apply below_drewN') | (refine Below.trans ?_ (Below.mono (by assumption) (by first | exact Nat.le_refl _ | (simp; done) | (simp; omega) | omega))) | exact Below.refl _ _ | assumption))
  case ca11R70 => (first | (simp [Act.put]; done) | (simp [Act.put, *]; done))
  try dsimp only
  refine wpW_det (t' := ?ct12R70) 12 (by rfl) (by kernel_rfl) (NQ_free _) (by kernel_rfl) ?cw12R70 ?ch12R70 ?ca12R70 (Eq.refl _) ?cH12R70
  case cw12R70 => (go_simp; done)
  case ch12R70 =>
    intro ds w' hS K hK
    have hc := (bcell hS).1
    have hf := (bcell hS).2
    have hz := hS.size
    try simp at hz
    go_simp
    try go_bits
    first
      | exact hK _ hS (Gr.refl _)
      | exact hK _ (by repeat (first | (with_reducible exact Below.refl _ _) | (with_reducible assumption) | ((with_reducible refine Below.setCell ?_ ?_ _); rotate_left; · (first | exact Nat.le_refl _ | (simp; done) | (simp; omega) | omega)) | ((with_reducible refine Below.alloc ?_ ?_ _); rotate_left; · (first | exact Nat.le_refl _ | (simp; done) | (simp; omega) | omega)) | (with_reducible apply Below.drew) | (with_reducible apply below_drewN') | (refine Below.trans ?_ (Below.mono (by assumption) (by first | exact Nat.le_refl _ | (simp; done) | (simp; omega) | omega))) | exact Below.refl _ _ | assumption)) (by repeat (first | (with_reducible exact Below.refl _ _) | (with_reducible assumption) | ((with_reducible refine Below.setCell ?_ ?_ _); rotate_left; · (first | exact Nat.le_refl _ | (simp; done) | (simp; omega) | omega)) | ((with_reducible refine Below.alloc ?_ ?_ _); rotate_left; · (first | exact Nat.le_refl _ | (simp; done) | (simp; omega) | omega)) | (with_reducible apply Below.drew) | (with_reducible apply below_drewN') | (refine Below.trans ?_ (Below.mono (by assumption) (by first | exact Nat.le_refl _ | (simp; done) | (simp; omega) | omega))) | exact Below.refl _ _ | assumption))
  case ca12R70 => (first | (simp [Act.put]; done) | (simp [Act.put, *]; done))
  try dsimp only
  refine wpW_det (t' := ?ct13R70) 13 (by rfl) (by kernel_rfl) (NQ_free _) (by kernel_rfl) ?cw13R70 ?ch13R70 ?ca13R70 (Eq.refl _) ?cH13R70
  case cw13R70 => (go_simp; done)
  case ch13R70 =>
    intro ds w' hS K hK
    have hc := (bcell hS).1
    have hf := (bcell hS).2
    have hz := hS.size
    try simp at hz
    go_simp
    try go_bits
    first
      | exact hK _ hS (Gr.refl _)
      | exact hK _ (by repeat (first | (with_reducible exact Below.refl _ _) | (with_reducible assumption) | ((with_reducible refine Below.setCell ?_ ?_ _); rotate_left; · (first | exact Nat.le_refl _ | (simp; done) | (simp; omega) | omega)) | ((with_reducible refine Below.alloc ?_ ?_ _); rotate_left; · (first | exact Nat.le_refl _ | (simp; done) | (simp; omega) | omega)) | (with_reducible apply Below.drew) | (with_reducible apply below_drewN') | (refine Below.trans ?_ (Below.mono (by assumption) (by first | exact Nat.le_refl _ | (simp; done) | (simp; omega) | omega))) | exact Below.refl _ _ | assumption)) (by repeat (first | (with_reducible exact Below.refl _ _) | (with_reducible assumption) | ((with_reducible refine Below.setCell ?_ ?_ _); rotate_left; · (first | exact Nat.le_refl _ | (simp; done) | (simp; omega) | omega)) | ((with_reducible refine Below.alloc ?_ ?_ _); rotate_left; · (first | exact Nat.le_refl _ | (simp; done) | (simp; omega) | omega)) | (with_reducible apply Below.drew) | (with_reducible apply below_drewN') | (refine Below.trans ?_ (Below.mono (by assumption) (by first | exact Nat.le_refl _ | (simp; done) | (simp; omega) | omega))) | exact Below.refl _ _ | assumption))
  case ca13R70 => (first | (simp [Act.put]; done) | (simp [Act.put, *]; done))
  try dsimp only
  refine wpW_det (t' := ?ct14R70) 14 (by rfl) (by kernel_rfl) (NQ_free _) (by kernel_rfl) ?cw14R70 ?ch14R70 ?ca14R70 (Eq.refl _) ?cH14R70
  case cw14R70 => (go_simp; done)
  case ch14R70 =>
    intro ds w' hS K hK
    have hc := (bcell hS).1
    have hf := (bcell hS).2
    have hz := hS.size
    try simp at hz
    go_simp
    try go_bits
    first
      | exact hK _ hS (Gr.refl _)
      | exact hK _ (by repeat (first | (with_reducible exact Below.refl _ _) | (with_reducible assumption) | ((with_reducible refine Below.setCell ?_ ?_ _); rotate_left; · (first | exact Nat.le_refl _ | (simp; done) | (simp; omega) | omega)) | ((with_reducible refine Below.alloc ?_ ?_ _); rotate_left; · (first | exact Nat.le_refl _ | (simp; done) | (simp; omega) | omega)) | (with_reducible apply Below.drew) | (with_reducible apply below_drewN') | (refine Below.trans ?_ (Below.mono (by assumption) (by first | exact Nat.le_refl _ | (simp; done) | (simp; omega) | omega))) | exact Below.refl _ _ | assumption)) (by repeat (first | (with_reducible exact Below.refl _ _) | (with_reducible assumption) | ((with_reducible refine Below.setCell ?_ ?_ _); rotate_left; · (first | exact Nat.le_refl _ | (simp; done) | (simp; omega) | omega)) | ((with_reducible refine Below.alloc ?_ ?_ _); rotate_left; · (first | exact Nat.le_refl _ | (simp; done) | (simp; omega) | omega)) | (with_reducible apply Below.drew) | (with_reducible apply below_drewN') | (refine Below.trans ?_ (Below.mono (by assumption) (by first | exact Nat.le_refl _ | (simp; done) | (simp; omega) | omega))) | exact Below.refl _ _ | assumption))
  case ca14R70 => (first | (simp [Act.put]; done) | (simp [Act.put, *]; done))
  try dsimp only
  refine wpW_branch [15] (by kernel_rfl) (by simp) ?_
  intro v1 hg_v1 hS_v1
  refine each_cons ?_ each_nil
  refine wpOp_go (by rfl) (Eq.refl _) (by go_simp; done) ?_
  intro K hK
  go_simp
  try simp only [Act.put]
  refine hK _ _ (hS_v1.alloc (Below.size hS_v1) _) ?_
  clear hK K
  have hb1 := Blk.new v1 39 #[.int .i64 0, .int .i64 0]
  have hz1 := Below.size hS_v1
  obtain ⟨N, hN⟩ : ∃ N, v1.heap.size = N := ⟨_, rfl⟩
  rw [hN] at hb1 hz1 ⊢
  generalize (v1.alloc (.cells #[.int .i64 0, .int .i64 0] 39)) = V at *
  refine wpW_branch [16] (by kernel_rfl) (by simp) ?_
  intro v2 hg2 hS2
  have hb2 := Blk.gr hb1 hg2
  obtain ⟨e0, e1, f3⟩ := blk2c hb2
  have lb := hb2.lt
  refine each_cons ?_ each_nil
  refine wpOp_go (by rfl) (Eq.refl _) (by go_simp; done) ?_
  intro K hK
  go_simp
  try simp only [Act.put]
  refine hK _ _ ((hS2.setCell hz1 _).setCell hz1 _) ?_
  clear hK K
  have hb3 := hb2.set2 (.int .i64 (s.row + r)) (.int .i64 (s.col + c))
  refine wpW_end (by kernel_rfl) ?_
  intro we hg hS
  unfold NQ
  dsimp only
  exact H.out _ _ _ _ _ _ _ _ _ _ _ _ _ _ _ N we hz1 (Blk.gr hb3 hg) hS

set_option maxRecDepth 100000 in
set_option maxHeartbeats 4000000 in
theorem cells_any (l : List Sc) (A : Option Addr) (cap B : Nat) (level : Int) (w : World) (hl : ScOk l A B w) (hB : B ≤ w.heap.size) (hgood : Hid (∀ s ∈ l, ScGood s)) (hlv : 0 ≤ level) (hn : l.length ≤ 6) :
    Calls Tryz.prog 9 #[.slice A l.length cap, .int .i64 level] w fun e w' => ∃ v L, e = .returned v ∧ Pls (atV l) level L ∧ L.length ≤ 4000 ∧ w'.ownsRow w.heap.size 39 2 v L.length (cellsC L) ∧ Below w.heap.size w w' := by
  have M0 : CelM w (.slice none 0 0) [] w := ⟨World.ownsRow_nil _ _ _ _, Below.refl _ _⟩
  go_enter Tryz.func9, Tryz.ntmps9
  go_wp2
  go_loopw [5, 6] (fun s5 s6 wr => ∃ (k : Nat) (L : List (Int × Int)) (v : Value), k ≤ l.length ∧ s5 = v ∧ s6 = .int .i64 k ∧ Hid (CelI l level k 0 0 L) ∧ CelM w v L wr) (fun _ s6 _ => l.length - (intOf s6).toNat)
  case atStart => exact ⟨0, [], _, Nat.zero_le _, rfl, rfl, Lib.hid (CelI.start l level), M0⟩
  case round =>
    clear M0
    obtain ⟨k, L, v, hk, rfl, rfl, HI, M⟩ := hrel
    by_cases hlt : k < l.length
    · have hls : l[k]? = some l[k] := List.getElem?_eq_getElem hlt
      have hg := hgood.out _ (List.getElem_mem hlt)
      have HG := Lib.hid hg
      obtain ⟨g1, g2, g3, g4⟩ : (-100000 ≤ l[k].row ∧ l[k].row ≤ 100000) ∧ (-100000 ≤ l[k].col ∧ l[k].col ≤ 100000) ∧ (1 ≤ l[k].rows ∧ l[k].rows ≤ 24) ∧ (1 ≤ l[k].cols ∧ l[k].cols ≤ 24) := ⟨hg.row, hg.col, hg.rows, hg.cols⟩
      obtain ⟨g, o, hA, hgB, q0, q1, q2, q3, _⟩ := scCells hl.row hlt
      have S0 : ScAt w g (o + k * 5) l[k] := ⟨q0, q1, q2, q3, by omega⟩
      have HLS := Lib.hid hls
      generalize l[k] = s at *
      clear hg hls q0 q1 q2 q3
      subst hA
      have hgw : g < w.heap.size := by omega
      have i1 : ((k : Int) < (l.length : Int)) := by omega
      go_wp2
      go_loopw [5, 7] (fun s5 s7 wr => ∃ (r : Nat) (L : List (Int × Int)) (v : Value), (r : Int) ≤ s.rows ∧ s5 = v ∧ s7 = .int .i64 r ∧ Hid (CelI l level k r 0 L) ∧ CelM w v L wr) (fun _ s7 _ => s.rows.toNat - (intOf s7).toNat)
      case atStart => exact ⟨0, L, _, by omega, rfl, by go_num, HI, M⟩
      case round =>
        clear M HI
        obtain ⟨r, L, v, hr, rfl, rfl, HI, M⟩ := hrel
        have S1 := S0.below M.below hgw
        obtain ⟨c0, c1, c2, c3, hlw⟩ := S1
        by_cases hrl : (r : Int) < s.rows
        · go_wp2
          clear c0 c1 c2 c3 hlw
          go_loopw [5, 8] (fun s5 s8 wr => ∃ (c : Nat) (L : List (Int × Int)) (v : Value), (c : Int) ≤ s.cols ∧ s5 = v ∧ s8 = .int .i64 c ∧ Hid (CelI l level k r c L) ∧ CelM w v L wr) (fun _ s8 _ => s.cols.toNat - (intOf s8).toNat)
          case atStart => exact ⟨0, L, _, by omega, rfl, by go_num, HI, M⟩
          case round =>
            clear M HI
            obtain ⟨c, L, v, hc, rfl, rfl, HI, M⟩ := hrel
            have S1 := S0.below M.below hgw
            have S2 := S1
            obtain ⟨c0, c1, c2, c3, hlw⟩ := S1
            by_cases hcl : (c : Int) < s.cols
            · go_wp2_with fail
              go_upto_region 11 with fail
              clear c0 c1 c2 c3 hlw
              refine cellsReg11 s S2 hlt g1 g2 (by omega) (by omega) _ ?_
              intro t34 t35 t36 t37 t38 t39 t40 t41 t42 t43 t44 t45 t46 t47 t48 N w1 hN b9 hG1
              try dsimp only
              replace M := M.gr hG1
              have HPUT : Hid (level ≤ atV l (s.row + r) (s.col + c) → ∀ L' : List (Int × Int), L'.Pairwise (fun x y => befB x y = true) → (∀ y, y ∈ L' ↔ y = (s.row + (r : Int), s.col + (c : Int)) ∨ y ∈ L) → L'.length ≤ L.length + 1 → CelI l level k r (c + 1) L') := Lib.hid (fun h L' h1 h2 h3 => HI.out.put HLS.out hrl hcl h h1 h2 h3)
              have HSK : Hid (atV l (s.row + r) (s.col + c) < level → CelI l level k r (c + 1) L) := Lib.hid (fun h => HI.out.skip HLS.out h)
              have hLl : L.length ≤ 100000 := by have := HI.out.len; have := hgood; omega
              have HAS := Lib.hid HI.out.asc
              have x1 : -1000000 ≤ s.row + (r : Int) ∧ s.row + (r : Int) ≤ 1000000 := by omega
              have x2 : -1000000 ≤ s.col + (c : Int) ∧ s.col + (c : Int) ≤ 1000000 := by omega
              obtain ⟨x, hx⟩ : ∃ x, s.row + (r : Int) = x := ⟨_, rfl⟩
              obtain ⟨y, hy⟩ : ∃ x, s.col + (c : Int) = x := ⟨_, rfl⟩
              rw [hx, hy] at HPUT HSK b9
              rw [hx] at x1
              rw [hy] at x2
              clear hx hy hG1 S2 HI
              obtain ⟨e0, e1, f9⟩ := blk2c b9
              have l9 := b9.lt
              have hzb := Below.size M.below
              go_wp2_with fail
              refine (refAt_any l (some ⟨g, o, none⟩) cap B x y _ (hl.below M.below hB) (by omega) hgood x1 x2).mono ?_
              rintro e w2 ⟨rfl, hB2⟩
              replace M := M.gr hB2
              replace b9 := b9.gr hB2
              clear e0 e1 f9 l9 hzb hB2
              obtain ⟨e0, e1, f9⟩ := blk2c b9
              have l9 := b9.lt
              have hzb := Below.size M.below
              obtain ⟨G, hG⟩ : ∃ G, atV l x y = G := ⟨_, rfl⟩
              rw [hG] at HPUT HSK ⊢
              clear hG
              by_cases hge : level ≤ G
              · have HP := Lib.hid (HPUT.out hge)
                clear HPUT HSK
                obtain ⟨Av, cv, rfl, _, _, _⟩ := own_row2 M.row
                go_wp2_with fail
                refine (put_any w.heap.size Av L cv (x, y) _ M.row hzb HAS.out hLl).mono ?_
                rintro e w3 ⟨v', L', rfl, a1, a2, a3, a4, a5⟩
                have M3 : CelM w v' L' w3 := ⟨a4, M.below.trans a5⟩
                have HX := Lib.hid (HP.out L' a1 a2 a3)
                clear HP a1 a2 a3 a4 a5 M b9 e0 e1 f9 l9
                go_wp2
                exact ⟨⟨c + 1, L', _, by omega, rfl, by go_num, HX, M3⟩, by simp [intOf]; omega⟩
              · have HX := Lib.hid (HSK.out (by omega))
                clear HPUT HSK
                go_wp2
                exact ⟨⟨c + 1, L, _, by omega, rfl, by go_num, HX, M⟩, by simp [intOf]; omega⟩
            · have HX : Hid (CelI l level k (r + 1) 0 L) := Lib.hid (HI.out.row HLS.out (by omega) HG.out)
              go_wp2
              exact ⟨⟨r + 1, L, _, by omega, rfl, by go_num, HX, M⟩, by simp [intOf]; omega⟩
        · have HX : Hid (CelI l level (k + 1) 0 0 L) := Lib.hid (HI.out.scan HLS.out (by omega) HG.out)
          go_wp2
          exact ⟨⟨k + 1, L, _, by omega, rfl, by go_num, HX, M⟩, by simp [intOf]; omega⟩
    · obtain rfl : k = l.length := by omega
      have HX := HI.out.done hlv
      have hLl := HI.out.len
      go_wp2
      go_ret
      exact ⟨_, L, rfl, HX, by omega, M.row, M.below⟩
end Go.Proofs.YtclpljbllnhhbaaGreat
