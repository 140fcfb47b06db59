/- find, some, verdict. -/
import Derived.Test.YtlbpogklkkninaaGreatDoorZoOeB
import Derived.Test.YtlbpogklkkninaaGreatDoorZoOsH
namespace Go.Proofs.YtlbpogklkkninaaGreatDoor
open Go.RowKit Go.Lib

theorem Row.at13 {α : Type} {f : α → List Value} (hf : ∀ a, (f a).length = 13) {w : World} {B : Nat} {A : Option Addr} {l : List α} (h : Row w B 13 A l.length (rowsC f l)) {k : Nat} (hk : k < l.length) {u0 u1 u2 u3 u4 u5 u6 u7 u8 u9 u10 u11 u12 : Value} (e : f l[k] = [u0, u1, u2, u3, u4, u5, u6, u7, u8, u9, u10, u11, u12]) :
    ∃ g o, A = some ⟨g, o, none⟩ ∧ g < B ∧ w.cell? ⟨g, o + k * 13, none⟩ = some u0 ∧ w.cell? ⟨g, o + k * 13 + 1, none⟩ = some u1 ∧ w.cell? ⟨g, o + k * 13 + 2, none⟩ = some u2 ∧ w.cell? ⟨g, o + k * 13 + 3, none⟩ = some u3 ∧ w.cell? ⟨g, o + k * 13 + 4, none⟩ = some u4 ∧ w.cell? ⟨g, o + k * 13 + 5, none⟩ = some u5 ∧ w.cell? ⟨g, o + k * 13 + 6, none⟩ = some u6 ∧ w.cell? ⟨g, o + k * 13 + 7, none⟩ = some u7 ∧ w.cell? ⟨g, o + k * 13 + 8, none⟩ = some u8 ∧ w.cell? ⟨g, o + k * 13 + 9, none⟩ = some u9 ∧ w.cell? ⟨g, o + k * 13 + 10, none⟩ = some u10 ∧ w.cell? ⟨g, o + k * 13 + 11, none⟩ = some u11 ∧ w.cell? ⟨g, o + k * 13 + 12, none⟩ = some u12 := by
  obtain ⟨g, o, hA, hb, hc⟩ := h.at_ hf hk
  rw [e] at hc
  exact ⟨g, o, hA, hb, hc 0 _ (by omega) rfl, hc 1 _ (by omega) rfl, hc 2 _ (by omega) rfl, hc 3 _ (by omega) rfl, hc 4 _ (by omega) rfl, hc 5 _ (by omega) rfl, hc 6 _ (by omega) rfl, hc 7 _ (by omega) rfl, hc 8 _ (by omega) rfl, hc 9 _ (by omega) rfl, hc 10 _ (by omega) rfl, hc 11 _ (by omega) rfl, hc 12 _ (by omega) rfl⟩

set_option maxHeartbeats 400000 in
theorem sameMk_any (p : Mk) (nm' : ByteArray) (b : Nat) (w : World) (hc : w.cell? ⟨b, 0, none⟩ = some (.string nm')) :
    Calls Tryz.prog 154 #[.agg (mkC p), .pointer (some ⟨b, 0, none⟩)] w fun e w' => e = .returned (.bool (sameB p.nm nm')) ∧ Below w.heap.size w w' := by
  have hlt := World.block_lt_of_cell? _ _ hc
  go_enter Tryz.func154, Tryz.ntmps154
  go_wp2
  go_ret
  exact ⟨rfl, (by repeat (first | (with_reducible exact Below.refl _ _) | (with_reducible assumption) | ((with_reducible refine Below.setCell ?_ ?_ _); rotate_left; · (first | exact Nat.le_refl _ | (simp; done) | (simp; omega) | omega)) | ((with_reducible refine Below.alloc ?_ ?_ _); rotate_left; · (first | exact Nat.le_refl _ | (simp; done) | (simp; omega) | omega)) | (with_reducible apply Below.drew) | (with_reducible apply below_drewN') | (refine Below.trans ?_ (Below.mono (by assumption) (by first | exact Nat.le_refl _ | (simp; done) | (simp; omega) | omega))) | exact Below.refl _ _ | assumption))⟩
theorem beqDec (a b : Int) : (a == b) = decide (a = b) := by by_cases h : a = b <;> simp [h]
/-- A mark that was rejected. -/
def rejB (p : Mk) : Bool := decide (p.sta = 1) && decide (p.dec = 1)
set_option maxHeartbeats 400000 in
theorem rejMk_any (p : Mk) (w : World) :
    Calls Tryz.prog 61 #[.agg (mkC p)] w fun e w' => e = .returned (.bool (rejB p)) ∧ Below w.heap.size w w' := by
  have HV : Hid (rejB p = (decide (p.sta = 1) && decide (p.dec = 1))) := Lib.hid rfl
  by_cases h1 : p.sta = 1
  · have h1' : (p.sta == 1) = true := by simpa using h1
    have HV2 : Hid (rejB p = (p.dec == 1)) := Lib.hid (by rw [HV.out, decide_eq_true h1]; simp [beqDec])
    clear h1
    go_enter Tryz.func61, Tryz.ntmps61
    go_wp2
    go_ret
    exact ⟨by rw [HV2.out]; rfl, (by repeat (first | (with_reducible exact Below.refl _ _) | (with_reducible assumption) | ((with_reducible refine Below.setCell ?_ ?_ _); rotate_left; · (first | exact Nat.le_refl _ | (simp; done) | (simp; omega) | omega)) | ((with_reducible refine Below.alloc ?_ ?_ _); rotate_left; · (first | exact Nat.le_refl _ | (simp; done) | (simp; omega) | omega)) | (with_reducible apply Below.drew) | (with_reducible apply below_drewN') | (refine Below.trans ?_ (Below.mono (by assumption) (by first | exact Nat.le_refl _ | (simp; done) | (simp; omega) | omega))) | exact Below.refl _ _ | assumption))⟩
  · have h1' : (p.sta == 1) = false := by simpa using h1
    have HV2 : Hid (rejB p = false) := Lib.hid (by rw [HV.out, decide_eq_false h1]; simp)
    clear h1
    go_enter Tryz.func61, Tryz.ntmps61
    go_wp2
    go_ret
    exact ⟨by rw [HV2.out]; rfl, (by repeat (first | (with_reducible exact Below.refl _ _) | (with_reducible assumption) | ((with_reducible refine Below.setCell ?_ ?_ _); rotate_left; · (first | exact Nat.le_refl _ | (simp; done) | (simp; omega) | omega)) | ((with_reducible refine Below.alloc ?_ ?_ _); rotate_left; · (first | exact Nat.le_refl _ | (simp; done) | (simp; omega) | omega)) | (with_reducible apply Below.drew) | (with_reducible apply below_drewN') | (refine Below.trans ?_ (Below.mono (by assumption) (by first | exact Nat.le_refl _ | (simp; done) | (simp; omega) | omega))) | exact Below.refl _ _ | assumption))⟩

set_option maxHeartbeats 1000000 in
theorem idxMk (l : List Mk) (A : Option Addr) (c : Nat) (nm' : ByteArray) (b : Nat) (B : Nat) (w : World) (hn : l.length ≤ 1000000) (hR : Row w B 13 A l.length (rowsC mkF l)) (hB : B ≤ w.heap.size) (hc : w.cell? ⟨b, 0, none⟩ = some (.string nm')) :
    Calls Tryz.prog 101 #[.slice A l.length c, .func (.func 154) #[] #[.pointer (some ⟨b, 0, none⟩)]] w fun e w' => e = .returned (.int .i64 (idxV (fun p => sameB p.nm nm') l)) ∧ Below w.heap.size w w' := by
  go_enter Tryz.func101, Tryz.ntmps101
  go_wp2
  go_loopw [8] (fun i wr => ∃ k : Nat, k ≤ l.length ∧ i = .int .i64 k ∧ Hid ((l.take k).any (fun p => sameB p.nm nm') = false) ∧ Below w.heap.size w wr) (fun i _ => l.length - (intOf i).toNat)
  case atStart => exact ⟨0, Nat.zero_le _, rfl, rfl, Below.refl _ _⟩
  case round =>
    obtain ⟨k, hk, rfl, HI, hB'⟩ := hrel
    by_cases hlt : k < l.length
    · obtain ⟨g, o, hA, hg, c0, c1, c2, c3, c4, c5, c6, c7, c8, c9, c10, c11, c12⟩ := (hR.below hB' hB).at13 mkF_len hlt rfl
      subst hA
      have hcb := (hB'.cell (p := ⟨b, 0, none⟩) (World.block_lt_of_cell? _ _ hc)).trans hc
      cases hs : (fun p => sameB p.nm nm') l[k]
      · have HS := Lib.hid hs; clear hs
        go_wp2_with fail
        refine (sameMk_any l[k] nm' b _ hcb).mono ?_
        rw [HS.out]
        rintro e w1 ⟨rfl, hB1⟩; obtain ⟨hc1, hf1⟩ := bcell hB1; have hz1 := hB1.size; (try simp at hz1)
        go_wp2
        refine ⟨⟨k + 1, by omega, by go_num, by rw [any_take_snoc _ _ hlt, HI.out, HS.out]; rfl, Below.trans hB' (hB1.mono (Below.size hB'))⟩, by simp [intOf]; omega⟩
      · have HS := Lib.hid (idxV_hit hlt HI.out hs); have HS2 := Lib.hid hs; clear hs
        go_wp2_with fail
        refine (sameMk_any l[k] nm' b _ hcb).mono ?_
        rw [HS2.out]
        rintro e w1 ⟨rfl, hB1⟩; obtain ⟨hc1, hf1⟩ := bcell hB1; have hz1 := hB1.size; (try simp at hz1)
        go_wp2
        go_ret
        exact ⟨by rw [HS.out]; rfl, Below.trans hB' (hB1.mono (Below.size hB'))⟩
    · obtain rfl : k = l.length := by omega
      have HS : Hid _ := Lib.hid (idxV_none (by rw [List.take_length] at HI; exact HI.out))
      go_wp2
      go_ret
      exact ⟨by rw [HS.out]; rfl, hB'⟩

set_option maxHeartbeats 1000000 in
theorem idxRej (l : List Mk) (A : Option Addr) (c : Nat)  (B : Nat) (w : World) (hn : l.length ≤ 1000000) (hR : Row w B 13 A l.length (rowsC mkF l)) (hB : B ≤ w.heap.size) :
    Calls Tryz.prog 101 #[.slice A l.length c, .func (.func 61) #[] #[]] w fun e w' => e = .returned (.int .i64 (idxV (rejB) l)) ∧ Below w.heap.size w w' := by
  go_enter Tryz.func101, Tryz.ntmps101
  go_wp2
  go_loopw [8] (fun i wr => ∃ k : Nat, k ≤ l.length ∧ i = .int .i64 k ∧ Hid ((l.take k).any (rejB) = false) ∧ Below w.heap.size w wr) (fun i _ => l.length - (intOf i).toNat)
  case atStart => exact ⟨0, Nat.zero_le _, rfl, rfl, Below.refl _ _⟩
  case round =>
    obtain ⟨k, hk, rfl, HI, hB'⟩ := hrel
    by_cases hlt : k < l.length
    · obtain ⟨g, o, hA, hg, c0, c1, c2, c3, c4, c5, c6, c7, c8, c9, c10, c11, c12⟩ := (hR.below hB' hB).at13 mkF_len hlt rfl
      subst hA

      cases hs : (rejB) l[k]
      · have HS := Lib.hid hs; clear hs
        go_wp2_with fail
        refine (rejMk_any l[k] _).mono ?_
        rw [HS.out]
        rintro e w1 ⟨rfl, hB1⟩; obtain ⟨hc1, hf1⟩ := bcell hB1; have hz1 := hB1.size; (try simp at hz1)
        go_wp2
        refine ⟨⟨k + 1, by omega, by go_num, by rw [any_take_snoc _ _ hlt, HI.out, HS.out]; rfl, Below.trans hB' (hB1.mono (Below.size hB'))⟩, by simp [intOf]; omega⟩
      · have HS := Lib.hid (idxV_hit hlt HI.out hs); have HS2 := Lib.hid hs; clear hs
        go_wp2_with fail
        refine (rejMk_any l[k] _).mono ?_
        rw [HS2.out]
        rintro e w1 ⟨rfl, hB1⟩; obtain ⟨hc1, hf1⟩ := bcell hB1; have hz1 := hB1.size; (try simp at hz1)
        go_wp2
        go_ret
        exact ⟨by rw [HS.out]; rfl, Below.trans hB' (hB1.mono (Below.size hB'))⟩
    · obtain rfl : k = l.length := by omega
      have HS : Hid _ := Lib.hid (idxV_none (by rw [List.take_length] at HI; exact HI.out))
      go_wp2
      go_ret
      exact ⟨by rw [HS.out]; rfl, hB'⟩

set_option maxHeartbeats 400000 in
theorem hasRej (l : List Mk) (A : Option Addr) (c : Nat)  (B : Nat) (w : World) (hn : l.length ≤ 1000000) (hR : Row w B 13 A l.length (rowsC mkF l)) (hB : B ≤ w.heap.size) :
    Calls Tryz.prog 84 #[.slice A l.length c, .func (.func 61) #[] #[]] w fun e w' => e = .returned (.bool (l.any (rejB))) ∧ Below w.heap.size w w' := by
  have HX := Lib.hid (idxV_any (rejB) l)
  go_enter Tryz.func84, Tryz.ntmps84
  go_wp2_with fail
  refine (idxRej l A c  B _ hn hR hB ).mono ?_
  rintro e w1 ⟨rfl, hB1⟩
  go_wp2
  go_ret
  exact ⟨by rw [← HX.out]; rfl, hB1⟩

/-- What find tells. -/
def FindR (l : List Mk) (nm : ByteArray) (A : Option Addr) (e : Ending) : Prop :=
  (idxV (fun p => sameB p.nm nm) l = -1 ∧ e = .returned (.tuple #[.pointer none, .bool false])) ∨
  (∃ (k g : Nat), ∃ hk : k < l.length, idxV (fun p => sameB p.nm nm) l = (k : Int) ∧ sameB l[k].nm nm = true ∧ A = some ⟨g, 0, none⟩ ∧ e = .returned (.tuple #[.pointer (some ⟨g, k * 13, none⟩), .bool true]))
set_option maxHeartbeats 1000000 in
theorem find_any (s : Se) (m : Me) (B base bx : Nat) (a : Ia) (st : In) (nm : ByteArray) (w : World) (h : Isp s m B base bx a st w) :
    Calls Tryz.prog 122 #[.pointer (some ⟨bx, 0, none⟩), .string nm] w fun e w' => FindR st.ms nm a.mA e ∧ Below w.heap.size w w' := by
  have bn := Blk.new w 9 #[.string nm]
  have hb0 := bn.cell 0
  have hB0 : Below w.heap.size w (w.alloc (.cells #[.string nm] 9)) := (by repeat (first | (with_reducible exact Below.refl _ _) | (with_reducible assumption) | ((with_reducible refine Below.setCell ?_ ?_ _); rotate_left; · (first | exact Nat.le_refl _ | (simp; done) | (simp; omega) | omega)) | ((with_reducible refine Below.alloc ?_ ?_ _); rotate_left; · (first | exact Nat.le_refl _ | (simp; done) | (simp; omega) | omega)) | (with_reducible apply Below.drew) | (with_reducible apply below_drewN') | (refine Below.trans ?_ (Below.mono (by assumption) (by first | exact Nat.le_refl _ | (simp; done) | (simp; omega) | omega))) | exact Below.refl _ _ | assumption))
  have hX := h.below hB0 (Nat.le_refl _)
  have HC := Lib.hid (idxMk st.ms a.mA a.mc nm w.heap.size _ _ (by have := h.lim.ms; omega) (own_row_ hX.ms) (Nat.le_refl _) hb0)
  have HO := Lib.hid h.ms
  have HX := Lib.hid h; clear h
  obtain ⟨c0, c1, c2, c3, c4, c5, c6, c7, c8, c9, c10, c11, c12, c13, c14, c15, c16, cf⟩ := blk17 hX.blk
  have lb := hX.blk.lt
  clear hX
  go_enter Tryz.func122, Tryz.ntmps122
  go_wp2_with fail
  refine HC.out.mono ?_
  rintro e w1 ⟨rfl, hB1⟩
  have hBB : Below w.heap.size w w1 := hB0.trans (hB1.mono (by simp))
  have hY := HX.out.below hBB (Nat.le_refl _)
  clear c0 c1 c2 c3 c4 c5 c6 c7 c8 c9 c10 c11 c12 c13 c14 c15 c16 cf lb
  obtain ⟨c0, c1, c2, c3, c4, c5, c6, c7, c8, c9, c10, c11, c12, c13, c14, c15, c16, cf⟩ := blk17 hY.blk
  have lb := hY.blk.lt
  clear hY
  have HE : Hid ((idxV (fun p => sameB p.nm nm) st.ms = -1 → FindR st.ms nm a.mA (.returned (.tuple #[.pointer none, .bool false]))) ∧ ∀ (k g : Nat), idxV (fun p => sameB p.nm nm) st.ms = (k : Int) → a.mA = some ⟨g, 0, none⟩ → FindR st.ms nm a.mA (.returned (.tuple #[.pointer (some ⟨g, k * 13, none⟩), .bool true]))) := Lib.hid ⟨fun h => .inl ⟨h, rfl⟩, fun k g h hA => by
    obtain ⟨hk, hp⟩ := idxV_lt h
    exact .inr ⟨k, g, hk, h, hp, hA, rfl⟩⟩
  have HLT : Hid (∀ k : Nat, idxV (fun p => sameB p.nm nm) st.ms = (k : Int) → k < st.ms.length) := Lib.hid fun k h => (idxV_lt h).1
  have HCASE : idxV (fun p => sameB p.nm nm) st.ms = -1 ∨ ∃ k : Nat, idxV (fun p => sameB p.nm nm) st.ms = (k : Int) := by
    unfold idxV
    cases List.findIdx? (fun p => sameB p.nm nm) st.ms with
    | none => exact .inl rfl
    | some k => exact .inr ⟨k, rfl⟩
  generalize idxV (fun p => sameB p.nm nm) st.ms = ix at *
  rcases HCASE with rfl | ⟨k, rfl⟩
  · have HF := Lib.hid (HE.out.1 rfl)
    go_wp2
    go_ret2
    exact ⟨HF.out, hBB⟩
  · have hk := HLT.out k rfl
    obtain ⟨g, o, hA, _⟩ := (own_row_ HO.out).at_ mkF_len hk
    obtain rfl : o = 0 := by
      obtain ⟨_, ⟨hv, _⟩ | ⟨g', cap', cur, hv, _⟩⟩ := HO.out
      · rw [hA] at hv; cases hv
      · rw [hA] at hv; cases hv; rfl
    have HF := Lib.hid (HE.out.2 k g rfl hA)
    rw [hA] at c15
    have hki : (k : Int) < (st.ms.length : Int) := by omega
    go_wp2
    go_ret2
    exact ⟨by simpa using HF.out, hBB⟩
/-- The verdict. -/
def verdV (st : In) : Int := if st.ms.any rejB = true then 0 else if st.cl = true then 2 else 1
set_option maxHeartbeats 1000000 in
theorem someRej_any (s : Se) (m : Me) (B base bx : Nat) (a : Ia) (st : In) (w : World) (h : Isp s m B base bx a st w) :
    Calls Tryz.prog 60 #[.pointer (some ⟨bx, 0, none⟩), .func (.func 61) #[] #[]] w fun e w' => e = .returned (.bool (st.ms.any rejB)) ∧ Below w.heap.size w w' := by
  have HC := Lib.hid (hasRej st.ms a.mA a.mc _ w (by have := h.lim.ms; omega) (own_row_ h.ms) (Nat.le_refl _))
  obtain ⟨c0, c1, c2, c3, c4, c5, c6, c7, c8, c9, c10, c11, c12, c13, c14, c15, c16, cf⟩ := blk17 h.blk
  have lb := h.blk.lt
  clear h
  go_enter Tryz.func60, Tryz.ntmps60
  go_wp2_with fail
  refine HC.out.mono ?_
  rintro e w1 ⟨rfl, hB1⟩
  go_wp2
  go_ret
  exact ⟨rfl, hB1⟩
set_option maxHeartbeats 1000000 in
theorem verdict_any (s : Se) (m : Me) (B base bx : Nat) (a : Ia) (st : In) (w : World) (h : Isp s m B base bx a st w) :
    Calls Tryz.prog 35 #[.pointer (some ⟨bx, 0, none⟩)] w fun e w' => e = .returned (.int .i64 (verdV st)) ∧ Below w.heap.size w w' := by
  have HC := Lib.hid (someRej_any s m B base bx a st w h)
  have HX := Lib.hid h; clear h
  have HV : Hid (verdV st = if st.ms.any rejB = true then 0 else if st.cl = true then 2 else 1) := Lib.hid rfl
  obtain ⟨r, hr⟩ : ∃ r, st.ms.any rejB = r := ⟨_, rfl⟩
  rw [hr] at HC HV
  clear hr
  go_enter Tryz.func35, Tryz.ntmps35
  go_wp2_with fail
  refine HC.out.mono ?_
  rintro e w1 ⟨rfl, hB1⟩
  have hY := HX.out.below hB1 (Nat.le_refl _)
  obtain ⟨c0, c1, c2, c3, c4, c5, c6, c7, c8, c9, c10, c11, c12, c13, c14, c15, c16, cf⟩ := blk17 hY.blk
  have lb := hY.blk.lt
  clear hY HX
  cases r
  · have HV2 : Hid (verdV st = if st.cl = true then 2 else 1) := Lib.hid (by rw [HV.out]; rfl)
    obtain ⟨cl, hcl⟩ : ∃ cl, st.cl = cl := ⟨_, rfl⟩
    rw [hcl] at c16 HV2
    clear hcl
    cases cl
    · go_wp2
      go_ret
      exact ⟨by rw [HV2.out]; rfl, hB1⟩
    · go_wp2
      go_ret
      exact ⟨by rw [HV2.out]; rfl, hB1⟩
  · go_wp2
    go_ret
    exact ⟨by rw [HV.out]; rfl, hB1⟩
end Go.Proofs.YtlbpogklkkninaaGreatDoor
