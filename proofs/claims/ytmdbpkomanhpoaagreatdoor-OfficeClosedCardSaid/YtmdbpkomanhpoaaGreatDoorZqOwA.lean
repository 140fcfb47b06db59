/- An inspection closed (inspection.close). -/
import Derived.Test.YtmdbpkomanhpoaaGreatDoorZqOeJ
namespace Go.Proofs.YtmdbpkomanhpoaaGreatDoor
open Go.RowKit Go.Lib

/-- An open mark; a decided one that hinders. -/
def openB (p : Mk) : Bool := decide (p.sta = 0)
def hindB (p : Mk) : Bool := decide (p.sta = 1) && !decide (p.dec = 0)
set_option maxHeartbeats 400000 in
theorem openMk_any (p : Mk) (w : World) :
    Calls Tryz.prog 25 #[.agg (mkC p)] w fun e w' => e = .returned (.bool (openB p)) ∧ Below w.heap.size w w' := by
  have HV : Hid (openB p = (p.sta == 0)) := Lib.hid (by unfold openB; rw [beqDec])
  go_enter Tryz.func25, Tryz.ntmps25
  go_wp2
  go_ret
  exact ⟨by rw [HV.out]; rfl, (by repeat (first | (with_reducible exact Below.refl _ _) | (with_reducible assumption) | ((with_reducible refine Below.setCell ?_ ?_ _); rotate_left; · (first | exact Nat.le_refl _ | (simp; done) | (simp; omega) | omega)) | ((with_reducible refine Below.alloc ?_ ?_ _); rotate_left; · (first | exact Nat.le_refl _ | (simp; done) | (simp; omega) | omega)) | (with_reducible apply Below.drew) | (with_reducible apply below_drewN') | (refine Below.trans ?_ (Below.mono (by assumption) (by first | exact Nat.le_refl _ | (simp; done) | (simp; omega) | omega))) | exact Below.refl _ _ | assumption))⟩
set_option maxHeartbeats 400000 in
theorem decMk_any (p : Mk) (w : World) :
    Calls Tryz.prog 45 #[.agg (mkC p)] w fun e w' => e = .returned (.bool (p.sta == 1)) ∧ Below w.heap.size w w' := by
  go_enter Tryz.func45, Tryz.ntmps45
  go_wp2
  go_ret
  exact ⟨rfl, (by repeat (first | (with_reducible exact Below.refl _ _) | (with_reducible assumption) | ((with_reducible refine Below.setCell ?_ ?_ _); rotate_left; · (first | exact Nat.le_refl _ | (simp; done) | (simp; omega) | omega)) | ((with_reducible refine Below.alloc ?_ ?_ _); rotate_left; · (first | exact Nat.le_refl _ | (simp; done) | (simp; omega) | omega)) | (with_reducible apply Below.drew) | (with_reducible apply below_drewN') | (refine Below.trans ?_ (Below.mono (by assumption) (by first | exact Nat.le_refl _ | (simp; done) | (simp; omega) | omega))) | exact Below.refl _ _ | assumption))⟩
theorem blk13d {w : World} {g t : Nat} {v0 v1 v2 v3 v4 v5 v6 v7 v8 v9 v10 v11 v12 : Value} (h : Blk w g t #[v0, v1, v2, v3, v4, v5, v6, v7, v8, v9, v10, v11, v12]) : w.cell? ⟨g, 11, none⟩ = some v11 := h.cell 11
set_option maxHeartbeats 1000000 in
theorem hindMk_any (p : Mk) (w : World) :
    Calls Tryz.prog 107 #[.agg (mkC p)] w fun e w' => e = .returned (.bool (hindB p)) ∧ Below w.heap.size w w' := by
  have HV : Hid (hindB p = ((p.sta == 1) && !(p.dec == 0))) := Lib.hid (by unfold hindB; rw [beqDec, beqDec])
  have b0 := Blk.new w 95 (mkC p)
  have hB0 : Below w.heap.size w (w.alloc (.cells (mkC p) 95)) := (Below.refl _ _).alloc (Nat.le_refl _) _
  obtain ⟨c0, c1, c2, c3, c4, c5, c6, c7, c8, c9, c10, c11, c12, cf⟩ := blk13 b0
  go_enter Tryz.func107, Tryz.ntmps107
  go_wp2_with fail
  refine (decMk_any p _).mono ?_
  rintro e w1 ⟨rfl, hB1⟩
  have b1 := b0.below hB1 b0.lt
  have hBB : Below w.heap.size w w1 := hB0.trans (hB1.mono (by simp))
  clear c0 c1 c2 c3 c4 c5 c6 c7 c8 c9 c10 c11 c12 cf hB0 hB1 b0
  have d11 := blk13d b1
  have l1 := b1.lt
  cases hq : p.sta == 1
  · have HV2 : Hid (hindB p = false) := Lib.hid (by rw [HV.out, hq]; rfl)
    clear hq
    go_wp2
    go_ret
    exact ⟨by rw [HV2.out]; rfl, hBB⟩
  · have HV2 : Hid (hindB p = !(p.dec == 0)) := Lib.hid (by rw [HV.out, hq]; rfl)
    clear hq
    go_wp2
    go_ret
    exact ⟨by rw [HV2.out]; rfl, hBB⟩

set_option maxHeartbeats 1000000 in
theorem idxOpen (l : List Mk) (A : Option Addr) (c : Nat)  (B : Nat) (w : World) (hn : l.length ≤ 1000000) (hR : Row w B 13 A l.length (rowsC mkF l)) (hB : B ≤ w.heap.size) :
    Calls Tryz.prog 86 #[.slice A l.length c, .func (.func 25) #[] #[]] w fun e w' => e = .returned (.int .i64 (idxV (openB) l)) ∧ Below w.heap.size w w' := by
  go_enter Tryz.func86, Tryz.ntmps86
  go_wp2
  go_loopw [8] (fun i wr => ∃ k : Nat, k ≤ l.length ∧ i = .int .i64 k ∧ Hid ((l.take k).any (openB) = false) ∧ Below w.heap.size w wr) (fun i _ => l.length - (intOf i).toNat)
  case atStart => exact ⟨0, Nat.zero_le _, rfl, rfl, Below.refl _ _⟩
  case round =>
    obtain ⟨k, hk, rfl, HI, hB'⟩ := hrel
    by_cases hlt : k < l.length
    · obtain ⟨g, o, hA, hg, c0, c1, c2, c3, c4, c5, c6, c7, c8, c9, c10, c11, c12⟩ := (hR.below hB' hB).at13 mkF_len hlt rfl
      subst hA

      cases hs : (openB) l[k]
      · have HS := Lib.hid hs; clear hs
        go_wp2_with fail
        refine (openMk_any l[k] _).mono ?_
        rw [HS.out]
        rintro e w1 ⟨rfl, hB1⟩; obtain ⟨hc1, hf1⟩ := bcell hB1; have hz1 := hB1.size; (try simp at hz1)
        go_wp2
        refine ⟨⟨k + 1, by omega, by go_num, by rw [any_take_snoc _ _ hlt, HI.out, HS.out]; rfl, Below.trans hB' (hB1.mono (Below.size hB'))⟩, by simp [intOf]; omega⟩
      · have HS := Lib.hid (idxV_hit hlt HI.out hs); have HS2 := Lib.hid hs; clear hs
        go_wp2_with fail
        refine (openMk_any l[k] _).mono ?_
        rw [HS2.out]
        rintro e w1 ⟨rfl, hB1⟩; obtain ⟨hc1, hf1⟩ := bcell hB1; have hz1 := hB1.size; (try simp at hz1)
        go_wp2
        go_ret
        exact ⟨by rw [HS.out]; rfl, Below.trans hB' (hB1.mono (Below.size hB'))⟩
    · obtain rfl : k = l.length := by omega
      have HS : Hid _ := Lib.hid (idxV_none (by rw [List.take_length] at HI; exact HI.out))
      go_wp2
      go_ret
      exact ⟨by rw [HS.out]; rfl, hB'⟩

set_option maxHeartbeats 400000 in
theorem hasOpen (l : List Mk) (A : Option Addr) (c : Nat)  (B : Nat) (w : World) (hn : l.length ≤ 1000000) (hR : Row w B 13 A l.length (rowsC mkF l)) (hB : B ≤ w.heap.size) :
    Calls Tryz.prog 60 #[.slice A l.length c, .func (.func 25) #[] #[]] w fun e w' => e = .returned (.bool (l.any (openB))) ∧ Below w.heap.size w w' := by
  have HX := Lib.hid (idxV_any (openB) l)
  go_enter Tryz.func60, Tryz.ntmps60
  go_wp2_with fail
  refine (idxOpen l A c  B _ hn hR hB ).mono ?_
  rintro e w1 ⟨rfl, hB1⟩
  go_wp2
  go_ret
  exact ⟨by rw [← HX.out]; rfl, hB1⟩

set_option maxHeartbeats 1000000 in
theorem idxHind (l : List Mk) (A : Option Addr) (c : Nat)  (B : Nat) (w : World) (hn : l.length ≤ 1000000) (hR : Row w B 13 A l.length (rowsC mkF l)) (hB : B ≤ w.heap.size) :
    Calls Tryz.prog 86 #[.slice A l.length c, .func (.func 107) #[] #[]] w fun e w' => e = .returned (.int .i64 (idxV (hindB) l)) ∧ Below w.heap.size w w' := by
  go_enter Tryz.func86, Tryz.ntmps86
  go_wp2
  go_loopw [8] (fun i wr => ∃ k : Nat, k ≤ l.length ∧ i = .int .i64 k ∧ Hid ((l.take k).any (hindB) = false) ∧ Below w.heap.size w wr) (fun i _ => l.length - (intOf i).toNat)
  case atStart => exact ⟨0, Nat.zero_le _, rfl, rfl, Below.refl _ _⟩
  case round =>
    obtain ⟨k, hk, rfl, HI, hB'⟩ := hrel
    by_cases hlt : k < l.length
    · obtain ⟨g, o, hA, hg, c0, c1, c2, c3, c4, c5, c6, c7, c8, c9, c10, c11, c12⟩ := (hR.below hB' hB).at13 mkF_len hlt rfl
      subst hA

      cases hs : (hindB) l[k]
      · have HS := Lib.hid hs; clear hs
        go_wp2_with fail
        refine (hindMk_any l[k] _).mono ?_
        rw [HS.out]
        rintro e w1 ⟨rfl, hB1⟩; obtain ⟨hc1, hf1⟩ := bcell hB1; have hz1 := hB1.size; (try simp at hz1)
        go_wp2
        refine ⟨⟨k + 1, by omega, by go_num, by rw [any_take_snoc _ _ hlt, HI.out, HS.out]; rfl, Below.trans hB' (hB1.mono (Below.size hB'))⟩, by simp [intOf]; omega⟩
      · have HS := Lib.hid (idxV_hit hlt HI.out hs); have HS2 := Lib.hid hs; clear hs
        go_wp2_with fail
        refine (hindMk_any l[k] _).mono ?_
        rw [HS2.out]
        rintro e w1 ⟨rfl, hB1⟩; obtain ⟨hc1, hf1⟩ := bcell hB1; have hz1 := hB1.size; (try simp at hz1)
        go_wp2
        go_ret
        exact ⟨by rw [HS.out]; rfl, Below.trans hB' (hB1.mono (Below.size hB'))⟩
    · obtain rfl : k = l.length := by omega
      have HS : Hid _ := Lib.hid (idxV_none (by rw [List.take_length] at HI; exact HI.out))
      go_wp2
      go_ret
      exact ⟨by rw [HS.out]; rfl, hB'⟩

set_option maxHeartbeats 400000 in
theorem hasHind (l : List Mk) (A : Option Addr) (c : Nat)  (B : Nat) (w : World) (hn : l.length ≤ 1000000) (hR : Row w B 13 A l.length (rowsC mkF l)) (hB : B ≤ w.heap.size) :
    Calls Tryz.prog 60 #[.slice A l.length c, .func (.func 107) #[] #[]] w fun e w' => e = .returned (.bool (l.any (hindB))) ∧ Below w.heap.size w w' := by
  have HX := Lib.hid (idxV_any (hindB) l)
  go_enter Tryz.func60, Tryz.ntmps60
  go_wp2_with fail
  refine (idxHind l A c  B _ hn hR hB ).mono ?_
  rintro e w1 ⟨rfl, hB1⟩
  go_wp2
  go_ret
  exact ⟨by rw [← HX.out]; rfl, hB1⟩
set_option maxHeartbeats 1000000 in
theorem someOpen_any (s : Se) (m : Me) (B base bx : Nat) (a : Ia) (st : In) (w : World) (h : Isp s m B base bx a st w) :
    Calls Tryz.prog 43 #[.pointer (some ⟨bx, 0, none⟩), .func (.func 25) #[] #[]] w fun e w' => e = .returned (.bool (st.ms.any openB)) ∧ Below w.heap.size w w' := by
  have HC := Lib.hid (hasOpen st.ms a.mA a.mc _ w (by have := h.lim.ms; omega) (own_row_ h.ms) (Nat.le_refl _))
  obtain ⟨c0, c1, c2, c3, c4, c5, c6, c7, c8, c9, c10, c11, c12, c13, c14, c15, c16, cf⟩ := blk17 h.blk
  have lb := h.blk.lt
  clear h
  go_enter Tryz.func43, Tryz.ntmps43
  go_wp2_with fail
  refine HC.out.mono ?_
  rintro e w1 ⟨rfl, hB1⟩
  go_wp2
  go_ret
  exact ⟨rfl, hB1⟩
set_option maxHeartbeats 1000000 in
theorem someHind_any (s : Se) (m : Me) (B base bx : Nat) (a : Ia) (st : In) (w : World) (h : Isp s m B base bx a st w) :
    Calls Tryz.prog 43 #[.pointer (some ⟨bx, 0, none⟩), .func (.func 107) #[] #[]] w fun e w' => e = .returned (.bool (st.ms.any hindB)) ∧ Below w.heap.size w w' := by
  have HC := Lib.hid (hasHind st.ms a.mA a.mc _ w (by have := h.lim.ms; omega) (own_row_ h.ms) (Nat.le_refl _))
  obtain ⟨c0, c1, c2, c3, c4, c5, c6, c7, c8, c9, c10, c11, c12, c13, c14, c15, c16, cf⟩ := blk17 h.blk
  have lb := h.blk.lt
  clear h
  go_enter Tryz.func43, Tryz.ntmps43
  go_wp2_with fail
  refine HC.out.mono ?_
  rintro e w1 ⟨rfl, hB1⟩
  go_wp2
  go_ret
  exact ⟨rfl, hB1⟩
/-- The error of a closing, and the state behind it. -/
def closeE (s : Se) (st : In) : Int := if 0 < (anewR s.tk (readsL st.sc)).length then 14 else if st.ms.any openB = true then 21 else if st.ms.any hindB = true then 20 else 0
def closeS (st : In) : In := { st with cl := true }
theorem Isp.setCl {s : Se} {m : Me} {B base bx : Nat} {a : Ia} {st : In} {w : World} (h : Isp s m B base bx a st w) : Isp s m B base bx a { st with cl := true } (w.setCell ⟨bx, 16, none⟩ (.bool true)) :=
  ⟨h.set.below ((Below.refl _ _).setCell (p := ⟨bx, 16, none⟩) (Nat.le_trans h.le h.lo) _) (Nat.le_refl _), Blk.set_ h.blk 16 _, own_other h.ev h.blk (by decide) _ _, own_other h.sc h.blk (by decide) _ _, own_other h.ms h.blk (by decide) _ _, h.le, h.lo, ⟨h.lim.ev, h.lim.sc, h.lim.ms, h.lim.pos⟩⟩
set_option maxHeartbeats 1000000 in
theorem close_any (s : Se) (m : Me) (B base bx : Nat) (a : Ia) (st : In) (v1 v2 : Value) (w : World) (h : Isp s m B base bx a st w) :
    Calls Tryz.prog 70 #[.pointer (some ⟨bx, 0, none⟩), v1, v2] w fun e w' => StepR s m B base bx a st (closeE s st) (closeS st) e w' ∧ Below base w w' := by
  have HI := Lib.hid h
  have hbw : base ≤ w.heap.size := Nat.le_trans h.lo (Nat.le_of_lt h.blk.lt)
  have HA := Lib.hid (insAnew_any s m B base bx a st w h)
  clear h
  have HE : Hid (closeE s st = if 0 < (anewR s.tk (readsL st.sc)).length then 14 else if st.ms.any openB = true then 21 else if st.ms.any hindB = true then 20 else 0) := Lib.hid rfl
  have HST : Hid (closeS st = { st with cl := true }) := Lib.hid rfl
  generalize closeE s st = E at *
  generalize closeS st = st' at *
  generalize anewR s.tk (readsL st.sc) = AN at *
  go_enter Tryz.func70, Tryz.ntmps70
  go_wp2_with fail
  refine HA.out.mono ?_
  rintro e w1 ⟨v, rfl, hv, hB1⟩
  obtain ⟨A1, c1, rfl, _, _, _⟩ := Row.ownd hv
  have HX := Lib.hid (HI.out.below hB1 (Nat.le_refl _))
  clear hv HA
  by_cases h0 : 0 < AN.length
  · replace HE := Lib.hid (HE.out.trans (if_pos h0))
    have h1 : (0 : Int) < (AN.length : Int) := by omega
    clear h0
    go_wp2
    go_ret
    exact ⟨⟨by rw [HE.out]; rfl, fun _ => HX.out, fun e => by rw [HE.out] at e; cases e⟩, hB1.mono hbw⟩
  replace HE := Lib.hid (HE.out.trans (if_neg h0))
  have h0' : AN.length = 0 := by omega
  rw [h0']
  clear h0 h0'
  have HO := Lib.hid (someOpen_any s m B base bx a st w1 HX.out)
  obtain ⟨r, hr⟩ : ∃ r, st.ms.any openB = r := ⟨_, rfl⟩
  rw [hr] at HO HE
  clear hr
  go_wp2_with fail
  refine HO.out.mono ?_
  rintro e w2 ⟨rfl, hB2⟩
  have hB3 : Below w.heap.size w w2 := hB1.trans (hB2.mono hB1.size)
  have HX2 := Lib.hid (HX.out.below hB2 (Nat.le_refl _))
  clear hB1 hB2 HX HO
  cases r
  rotate_left
  · replace HE := Lib.hid (HE.out.trans (if_pos rfl))
    go_wp2
    go_ret
    exact ⟨⟨by rw [HE.out]; rfl, fun _ => HX2.out, fun e => by rw [HE.out] at e; cases e⟩, hB3.mono hbw⟩
  replace HE := Lib.hid (HE.out.trans (if_neg (by simp)))
  have HH := Lib.hid (someHind_any s m B base bx a st w2 HX2.out)
  obtain ⟨r, hr⟩ : ∃ r, st.ms.any hindB = r := ⟨_, rfl⟩
  rw [hr] at HH HE
  clear hr
  go_wp2_with fail
  refine HH.out.mono ?_
  rintro e w3 ⟨rfl, hB4⟩
  have hB5 : Below w.heap.size w w3 := hB3.trans (hB4.mono hB3.size)
  have HX3 := Lib.hid (HX2.out.below hB4 (Nat.le_refl _))
  clear hB3 hB4 HX2 HH
  cases r
  rotate_left
  · replace HE := Lib.hid (HE.out.trans (if_pos rfl))
    go_wp2
    go_ret
    exact ⟨⟨by rw [HE.out]; rfl, fun _ => HX3.out, fun e => by rw [HE.out] at e; cases e⟩, hB5.mono hbw⟩
  replace HE := Lib.hid (HE.out.trans (if_neg (by simp)))
  obtain ⟨c0, c1, c2, c3, c4, c5, c6, c7, c8, c9, c10, c11, c12, c13, c14, c15, c16, cf⟩ := blk17 HX3.out.blk
  have lb := HX3.out.blk.lt
  have HF := Lib.hid HX3.out.setCl
  have HFB := Lib.hid ((hB5.mono hbw).setCell (p := ⟨bx, 16, none⟩) HX3.out.lo (.bool true))
  clear c0 c1 c2 c3 c4 c5 c6 c7 c8 c9 c10 c11 c12 c13 c14 c15
  go_wp2
  go_ret
  exact ⟨⟨by rw [HE.out]; rfl, fun e => absurd HE.out e, fun _ => ⟨_, by rw [HST.out]; exact HF.out⟩⟩, HFB.out⟩
end Go.Proofs.YtmdbpkomanhpoaaGreatDoor
