/- find, some, verdict. Words joined; an event of calibration entered (inspection.tune). -/
import Derived.Deep.DeepCutAuto
import Derived.Test.YtmdbpkomanhpoaaGreatDoorZqOeB
import Derived.Test.YtmdbpkomanhpoaaGreatDoorZqOsH
namespace Go.Proofs.YtmdbpkomanhpoaaGreatDoor
open Go.RowKit Go.Lib

theorem Row.at13 {α : Type} {f : α → List Value} (hf : ∀ a, (f a).length = 13) {w : World} {B : Nat} {A : Option Addr} {l : List α} (h : Row w B 13 A l.length (rowsC f l)) {k : Nat} (hk : k < l.length) {u0 u1 u2 u3 u4 u5 u6 u7 u8 u9 u10 u11 u12 : Value} (e : f l[k] = [u0, u1, u2, u3, u4, u5, u6, u7, u8, u9, u10, u11, u12]) :
    ∃ g o, A = some ⟨g, o, none⟩ ∧ g < B ∧ w.cell? ⟨g, o + k * 13, none⟩ = some u0 ∧ w.cell? ⟨g, o + k * 13 + 1, none⟩ = some u1 ∧ w.cell? ⟨g, o + k * 13 + 2, none⟩ = some u2 ∧ w.cell? ⟨g, o + k * 13 + 3, none⟩ = some u3 ∧ w.cell? ⟨g, o + k * 13 + 4, none⟩ = some u4 ∧ w.cell? ⟨g, o + k * 13 + 5, none⟩ = some u5 ∧ w.cell? ⟨g, o + k * 13 + 6, none⟩ = some u6 ∧ w.cell? ⟨g, o + k * 13 + 7, none⟩ = some u7 ∧ w.cell? ⟨g, o + k * 13 + 8, none⟩ = some u8 ∧ w.cell? ⟨g, o + k * 13 + 9, none⟩ = some u9 ∧ w.cell? ⟨g, o + k * 13 + 10, none⟩ = some u10 ∧ w.cell? ⟨g, o + k * 13 + 11, none⟩ = some u11 ∧ w.cell? ⟨g, o + k * 13 + 12, none⟩ = some u12 := by
  obtain ⟨g, o, hA, hb, hc⟩ := h.at_ hf hk
  rw [e] at hc
  exact ⟨g, o, hA, hb, hc 0 _ (by omega) rfl, hc 1 _ (by omega) rfl, hc 2 _ (by omega) rfl, hc 3 _ (by omega) rfl, hc 4 _ (by omega) rfl, hc 5 _ (by omega) rfl, hc 6 _ (by omega) rfl, hc 7 _ (by omega) rfl, hc 8 _ (by omega) rfl, hc 9 _ (by omega) rfl, hc 10 _ (by omega) rfl, hc 11 _ (by omega) rfl, hc 12 _ (by omega) rfl⟩

set_option maxHeartbeats 400000 in
theorem sameMk_any (p : Mk) (nm' : ByteArray) (b : Nat) (w : World) (hc : w.cell? ⟨b, 0, none⟩ = some (.string nm')) :
    Calls Tryz.prog 136 #[.agg (mkC p), .pointer (some ⟨b, 0, none⟩)] w fun e w' => e = .returned (.bool (sameB p.nm nm')) ∧ Below w.heap.size w w' := by
  have hlt := World.block_lt_of_cell? _ _ hc
  go_enter Tryz.func136, Tryz.ntmps136
  go_wp2
  go_ret
  exact ⟨rfl, (by repeat (first | (with_reducible exact Below.refl _ _) | (with_reducible assumption) | ((with_reducible refine Below.setCell ?_ ?_ _); rotate_left; · (first | exact Nat.le_refl _ | (simp; done) | (simp; omega) | omega)) | ((with_reducible refine Below.alloc ?_ ?_ _); rotate_left; · (first | exact Nat.le_refl _ | (simp; done) | (simp; omega) | omega)) | (with_reducible apply Below.drew) | (with_reducible apply below_drewN') | (refine Below.trans ?_ (Below.mono (by assumption) (by first | exact Nat.le_refl _ | (simp; done) | (simp; omega) | omega))) | exact Below.refl _ _ | assumption))⟩
theorem beqDec (a b : Int) : (a == b) = decide (a = b) := by by_cases h : a = b <;> simp [h]
/-- A mark that was rejected. -/
def rejB (p : Mk) : Bool := decide (p.sta = 1) && decide (p.dec = 1)
set_option maxHeartbeats 400000 in
theorem rejMk_any (p : Mk) (w : World) :
    Calls Tryz.prog 44 #[.agg (mkC p)] w fun e w' => e = .returned (.bool (rejB p)) ∧ Below w.heap.size w w' := by
  have HV : Hid (rejB p = (decide (p.sta = 1) && decide (p.dec = 1))) := Lib.hid rfl
  by_cases h1 : p.sta = 1
  · have h1' : (p.sta == 1) = true := by simpa using h1
    have HV2 : Hid (rejB p = (p.dec == 1)) := Lib.hid (by rw [HV.out, decide_eq_true h1]; simp [beqDec])
    clear h1
    go_enter Tryz.func44, Tryz.ntmps44
    go_wp2
    go_ret
    exact ⟨by rw [HV2.out]; rfl, (by repeat (first | (with_reducible exact Below.refl _ _) | (with_reducible assumption) | ((with_reducible refine Below.setCell ?_ ?_ _); rotate_left; · (first | exact Nat.le_refl _ | (simp; done) | (simp; omega) | omega)) | ((with_reducible refine Below.alloc ?_ ?_ _); rotate_left; · (first | exact Nat.le_refl _ | (simp; done) | (simp; omega) | omega)) | (with_reducible apply Below.drew) | (with_reducible apply below_drewN') | (refine Below.trans ?_ (Below.mono (by assumption) (by first | exact Nat.le_refl _ | (simp; done) | (simp; omega) | omega))) | exact Below.refl _ _ | assumption))⟩
  · have h1' : (p.sta == 1) = false := by simpa using h1
    have HV2 : Hid (rejB p = false) := Lib.hid (by rw [HV.out, decide_eq_false h1]; simp)
    clear h1
    go_enter Tryz.func44, Tryz.ntmps44
    go_wp2
    go_ret
    exact ⟨by rw [HV2.out]; rfl, (by repeat (first | (with_reducible exact Below.refl _ _) | (with_reducible assumption) | ((with_reducible refine Below.setCell ?_ ?_ _); rotate_left; · (first | exact Nat.le_refl _ | (simp; done) | (simp; omega) | omega)) | ((with_reducible refine Below.alloc ?_ ?_ _); rotate_left; · (first | exact Nat.le_refl _ | (simp; done) | (simp; omega) | omega)) | (with_reducible apply Below.drew) | (with_reducible apply below_drewN') | (refine Below.trans ?_ (Below.mono (by assumption) (by first | exact Nat.le_refl _ | (simp; done) | (simp; omega) | omega))) | exact Below.refl _ _ | assumption))⟩

set_option maxHeartbeats 1000000 in
theorem idxMk (l : List Mk) (A : Option Addr) (c : Nat) (nm' : ByteArray) (b : Nat) (B : Nat) (w : World) (hn : l.length ≤ 1000000) (hR : Row w B 13 A l.length (rowsC mkF l)) (hB : B ≤ w.heap.size) (hc : w.cell? ⟨b, 0, none⟩ = some (.string nm')) :
    Calls Tryz.prog 86 #[.slice A l.length c, .func (.func 136) #[] #[.pointer (some ⟨b, 0, none⟩)]] w fun e w' => e = .returned (.int .i64 (idxV (fun p => sameB p.nm nm') l)) ∧ Below w.heap.size w w' := by
  go_enter Tryz.func86, Tryz.ntmps86
  go_wp2
  go_loopw [8] (fun i wr => ∃ k : Nat, k ≤ l.length ∧ i = .int .i64 k ∧ Hid ((l.take k).any (fun p => sameB p.nm nm') = false) ∧ Below w.heap.size w wr) (fun i _ => l.length - (intOf i).toNat)
  case atStart => exact ⟨0, Nat.zero_le _, rfl, rfl, Below.refl _ _⟩
  case round =>
    obtain ⟨k, hk, rfl, HI, hB'⟩ := hrel
    by_cases hlt : k < l.length
    · obtain ⟨g, o, hA, hg, c0, c1, c2, c3, c4, c5, c6, c7, c8, c9, c10, c11, c12⟩ := (hR.below hB' hB).at13 mkF_len hlt rfl
      subst hA
      have hcb := (hB'.cell (p := ⟨b, 0, none⟩) (World.block_lt_of_cell? _ _ hc)).trans hc
      cases hs : (fun p => sameB p.nm nm') l[k]
      · have HS := Lib.hid hs; clear hs
        go_wp2_with fail
        refine (sameMk_any l[k] nm' b _ hcb).mono ?_
        rw [HS.out]
        rintro e w1 ⟨rfl, hB1⟩; obtain ⟨hc1, hf1⟩ := bcell hB1; have hz1 := hB1.size; (try simp at hz1)
        go_wp2
        refine ⟨⟨k + 1, by omega, by go_num, by rw [any_take_snoc _ _ hlt, HI.out, HS.out]; rfl, Below.trans hB' (hB1.mono (Below.size hB'))⟩, by simp [intOf]; omega⟩
      · have HS := Lib.hid (idxV_hit hlt HI.out hs); have HS2 := Lib.hid hs; clear hs
        go_wp2_with fail
        refine (sameMk_any l[k] nm' b _ hcb).mono ?_
        rw [HS2.out]
        rintro e w1 ⟨rfl, hB1⟩; obtain ⟨hc1, hf1⟩ := bcell hB1; have hz1 := hB1.size; (try simp at hz1)
        go_wp2
        go_ret
        exact ⟨by rw [HS.out]; rfl, Below.trans hB' (hB1.mono (Below.size hB'))⟩
    · obtain rfl : k = l.length := by omega
      have HS : Hid _ := Lib.hid (idxV_none (by rw [List.take_length] at HI; exact HI.out))
      go_wp2
      go_ret
      exact ⟨by rw [HS.out]; rfl, hB'⟩

set_option maxHeartbeats 1000000 in
theorem idxRej (l : List Mk) (A : Option Addr) (c : Nat)  (B : Nat) (w : World) (hn : l.length ≤ 1000000) (hR : Row w B 13 A l.length (rowsC mkF l)) (hB : B ≤ w.heap.size) :
    Calls Tryz.prog 86 #[.slice A l.length c, .func (.func 44) #[] #[]] w fun e w' => e = .returned (.int .i64 (idxV (rejB) l)) ∧ Below w.heap.size w w' := by
  go_enter Tryz.func86, Tryz.ntmps86
  go_wp2
  go_loopw [8] (fun i wr => ∃ k : Nat, k ≤ l.length ∧ i = .int .i64 k ∧ Hid ((l.take k).any (rejB) = false) ∧ Below w.heap.size w wr) (fun i _ => l.length - (intOf i).toNat)
  case atStart => exact ⟨0, Nat.zero_le _, rfl, rfl, Below.refl _ _⟩
  case round =>
    obtain ⟨k, hk, rfl, HI, hB'⟩ := hrel
    by_cases hlt : k < l.length
    · obtain ⟨g, o, hA, hg, c0, c1, c2, c3, c4, c5, c6, c7, c8, c9, c10, c11, c12⟩ := (hR.below hB' hB).at13 mkF_len hlt rfl
      subst hA

      cases hs : (rejB) l[k]
      · have HS := Lib.hid hs; clear hs
        go_wp2_with fail
        refine (rejMk_any l[k] _).mono ?_
        rw [HS.out]
        rintro e w1 ⟨rfl, hB1⟩; obtain ⟨hc1, hf1⟩ := bcell hB1; have hz1 := hB1.size; (try simp at hz1)
        go_wp2
        refine ⟨⟨k + 1, by omega, by go_num, by rw [any_take_snoc _ _ hlt, HI.out, HS.out]; rfl, Below.trans hB' (hB1.mono (Below.size hB'))⟩, by simp [intOf]; omega⟩
      · have HS := Lib.hid (idxV_hit hlt HI.out hs); have HS2 := Lib.hid hs; clear hs
        go_wp2_with fail
        refine (rejMk_any l[k] _).mono ?_
        rw [HS2.out]
        rintro e w1 ⟨rfl, hB1⟩; obtain ⟨hc1, hf1⟩ := bcell hB1; have hz1 := hB1.size; (try simp at hz1)
        go_wp2
        go_ret
        exact ⟨by rw [HS.out]; rfl, Below.trans hB' (hB1.mono (Below.size hB'))⟩
    · obtain rfl : k = l.length := by omega
      have HS : Hid _ := Lib.hid (idxV_none (by rw [List.take_length] at HI; exact HI.out))
      go_wp2
      go_ret
      exact ⟨by rw [HS.out]; rfl, hB'⟩

set_option maxHeartbeats 400000 in
theorem hasRej (l : List Mk) (A : Option Addr) (c : Nat)  (B : Nat) (w : World) (hn : l.length ≤ 1000000) (hR : Row w B 13 A l.length (rowsC mkF l)) (hB : B ≤ w.heap.size) :
    Calls Tryz.prog 60 #[.slice A l.length c, .func (.func 44) #[] #[]] w fun e w' => e = .returned (.bool (l.any (rejB))) ∧ Below w.heap.size w w' := by
  have HX := Lib.hid (idxV_any (rejB) l)
  go_enter Tryz.func60, Tryz.ntmps60
  go_wp2_with fail
  refine (idxRej l A c  B _ hn hR hB ).mono ?_
  rintro e w1 ⟨rfl, hB1⟩
  go_wp2
  go_ret
  exact ⟨by rw [← HX.out]; rfl, hB1⟩

/-- What find tells. -/
def FindR (l : List Mk) (nm : ByteArray) (A : Option Addr) (e : Ending) : Prop :=
  (idxV (fun p => sameB p.nm nm) l = -1 ∧ e = .returned (.tuple #[.pointer none, .bool false])) ∨
  (∃ (k g : Nat), ∃ hk : k < l.length, idxV (fun p => sameB p.nm nm) l = (k : Int) ∧ sameB l[k].nm nm = true ∧ A = some ⟨g, 0, none⟩ ∧ e = .returned (.tuple #[.pointer (some ⟨g, k * 13, none⟩), .bool true]))
set_option maxHeartbeats 1000000 in
theorem find_any (s : Se) (m : Me) (B base bx : Nat) (a : Ia) (st : In) (nm : ByteArray) (w : World) (h : Isp s m B base bx a st w) :
    Calls Tryz.prog 99 #[.pointer (some ⟨bx, 0, none⟩), .string nm] w fun e w' => FindR st.ms nm a.mA e ∧ Below w.heap.size w w' := by
  have bn := Blk.new w 9 #[.string nm]
  have hb0 := bn.cell 0
  have hB0 : Below w.heap.size w (w.alloc (.cells #[.string nm] 9)) := (by repeat (first | (with_reducible exact Below.refl _ _) | (with_reducible assumption) | ((with_reducible refine Below.setCell ?_ ?_ _); rotate_left; · (first | exact Nat.le_refl _ | (simp; done) | (simp; omega) | omega)) | ((with_reducible refine Below.alloc ?_ ?_ _); rotate_left; · (first | exact Nat.le_refl _ | (simp; done) | (simp; omega) | omega)) | (with_reducible apply Below.drew) | (with_reducible apply below_drewN') | (refine Below.trans ?_ (Below.mono (by assumption) (by first | exact Nat.le_refl _ | (simp; done) | (simp; omega) | omega))) | exact Below.refl _ _ | assumption))
  have hX := h.below hB0 (Nat.le_refl _)
  have HC := Lib.hid (idxMk st.ms a.mA a.mc nm w.heap.size _ _ (by have := h.lim.ms; omega) (own_row_ hX.ms) (Nat.le_refl _) hb0)
  have HO := Lib.hid h.ms
  have HX := Lib.hid h; clear h
  obtain ⟨c0, c1, c2, c3, c4, c5, c6, c7, c8, c9, c10, c11, c12, c13, c14, c15, c16, cf⟩ := blk17 hX.blk
  have lb := hX.blk.lt
  clear hX
  go_enter Tryz.func99, Tryz.ntmps99
  go_wp2_with fail
  refine HC.out.mono ?_
  rintro e w1 ⟨rfl, hB1⟩
  have hBB : Below w.heap.size w w1 := hB0.trans (hB1.mono (by simp))
  have hY := HX.out.below hBB (Nat.le_refl _)
  clear c0 c1 c2 c3 c4 c5 c6 c7 c8 c9 c10 c11 c12 c13 c14 c15 c16 cf lb
  obtain ⟨c0, c1, c2, c3, c4, c5, c6, c7, c8, c9, c10, c11, c12, c13, c14, c15, c16, cf⟩ := blk17 hY.blk
  have lb := hY.blk.lt
  clear hY
  have HE : Hid ((idxV (fun p => sameB p.nm nm) st.ms = -1 → FindR st.ms nm a.mA (.returned (.tuple #[.pointer none, .bool false]))) ∧ ∀ (k g : Nat), idxV (fun p => sameB p.nm nm) st.ms = (k : Int) → a.mA = some ⟨g, 0, none⟩ → FindR st.ms nm a.mA (.returned (.tuple #[.pointer (some ⟨g, k * 13, none⟩), .bool true]))) := Lib.hid ⟨fun h => .inl ⟨h, rfl⟩, fun k g h hA => by
    obtain ⟨hk, hp⟩ := idxV_lt h
    exact .inr ⟨k, g, hk, h, hp, hA, rfl⟩⟩
  have HLT : Hid (∀ k : Nat, idxV (fun p => sameB p.nm nm) st.ms = (k : Int) → k < st.ms.length) := Lib.hid fun k h => (idxV_lt h).1
  have HCASE : idxV (fun p => sameB p.nm nm) st.ms = -1 ∨ ∃ k : Nat, idxV (fun p => sameB p.nm nm) st.ms = (k : Int) := by
    unfold idxV
    cases List.findIdx? (fun p => sameB p.nm nm) st.ms with
    | none => exact .inl rfl
    | some k => exact .inr ⟨k, rfl⟩
  generalize idxV (fun p => sameB p.nm nm) st.ms = ix at *
  rcases HCASE with rfl | ⟨k, rfl⟩
  · have HF := Lib.hid (HE.out.1 rfl)
    go_wp2
    go_ret2
    exact ⟨HF.out, hBB⟩
  · have hk := HLT.out k rfl
    obtain ⟨g, o, hA, _⟩ := (own_row_ HO.out).at_ mkF_len hk
    obtain rfl : o = 0 := by
      obtain ⟨_, ⟨hv, _⟩ | ⟨g', cap', cur, hv, _⟩⟩ := HO.out
      · rw [hA] at hv; cases hv
      · rw [hA] at hv; cases hv; rfl
    have HF := Lib.hid (HE.out.2 k g rfl hA)
    rw [hA] at c15
    have hki : (k : Int) < (st.ms.length : Int) := by omega
    go_wp2
    go_ret2
    exact ⟨by simpa using HF.out, hBB⟩
/-- The verdict. -/
def verdV (st : In) : Int := if st.ms.any rejB = true then 0 else if st.cl = true then 2 else 1
set_option maxHeartbeats 1000000 in
theorem someRej_any (s : Se) (m : Me) (B base bx : Nat) (a : Ia) (st : In) (w : World) (h : Isp s m B base bx a st w) :
    Calls Tryz.prog 43 #[.pointer (some ⟨bx, 0, none⟩), .func (.func 44) #[] #[]] w fun e w' => e = .returned (.bool (st.ms.any rejB)) ∧ Below w.heap.size w w' := by
  have HC := Lib.hid (hasRej st.ms a.mA a.mc _ w (by have := h.lim.ms; omega) (own_row_ h.ms) (Nat.le_refl _))
  obtain ⟨c0, c1, c2, c3, c4, c5, c6, c7, c8, c9, c10, c11, c12, c13, c14, c15, c16, cf⟩ := blk17 h.blk
  have lb := h.blk.lt
  clear h
  go_enter Tryz.func43, Tryz.ntmps43
  go_wp2_with fail
  refine HC.out.mono ?_
  rintro e w1 ⟨rfl, hB1⟩
  go_wp2
  go_ret
  exact ⟨rfl, hB1⟩
set_option maxHeartbeats 1000000 in
theorem verdict_any (s : Se) (m : Me) (B base bx : Nat) (a : Ia) (st : In) (w : World) (h : Isp s m B base bx a st w) :
    Calls Tryz.prog 26 #[.pointer (some ⟨bx, 0, none⟩)] w fun e w' => e = .returned (.int .i64 (verdV st)) ∧ Below w.heap.size w w' := by
  have HC := Lib.hid (someRej_any s m B base bx a st w h)
  have HX := Lib.hid h; clear h
  have HV : Hid (verdV st = if st.ms.any rejB = true then 0 else if st.cl = true then 2 else 1) := Lib.hid rfl
  obtain ⟨r, hr⟩ : ∃ r, st.ms.any rejB = r := ⟨_, rfl⟩
  rw [hr] at HC HV
  clear hr
  go_enter Tryz.func26, Tryz.ntmps26
  go_wp2_with fail
  refine HC.out.mono ?_
  rintro e w1 ⟨rfl, hB1⟩
  have hY := HX.out.below hB1 (Nat.le_refl _)
  obtain ⟨c0, c1, c2, c3, c4, c5, c6, c7, c8, c9, c10, c11, c12, c13, c14, c15, c16, cf⟩ := blk17 hY.blk
  have lb := hY.blk.lt
  clear hY HX
  cases r
  · have HV2 : Hid (verdV st = if st.cl = true then 2 else 1) := Lib.hid (by rw [HV.out]; rfl)
    obtain ⟨cl, hcl⟩ : ∃ cl, st.cl = cl := ⟨_, rfl⟩
    rw [hcl] at c16 HV2
    clear hcl
    cases cl
    · go_wp2
      go_ret
      exact ⟨by rw [HV2.out]; rfl, hB1⟩
    · go_wp2
      go_ret
      exact ⟨by rw [HV2.out]; rfl, hB1⟩
  · go_wp2
    go_ret
    exact ⟨by rw [HV.out]; rfl, hB1⟩
end Go.Proofs.YtmdbpkomanhpoaaGreatDoor

namespace Go.Proofs.YtmdbpkomanhpoaaGreatDoor
open Go.RowKit Go.Lib

theorem join_row (xs : List ByteArray) (c : UInt8) (A : Option Addr) (k B : Nat) (w : World) (h : Row w B 1 A xs.length (strsC xs)) (hB : B ≤ w.heap.size) (hx : xs ≠ []) (hk : xs.length ≤ k) (hlen : (join (xs.map (·.data.toList)) [c]).length ≤ 1000000000) (hn : xs.length ≤ 1000000) :
    Calls Tryz.prog 31 #[.slice A xs.length k, .string ⟨#[c]⟩] w fun e w' => e = .returned (.string (strB (join (xs.map (·.data.toList)) [c]))) ∧ Below w.heap.size w w' := by
  have h0 : 0 < xs.length := by cases xs with
    | nil => exact absurd rfl hx
    | cons a b => simp
  obtain ⟨g, o, rfl, hg, hc⟩ := h.2 (by omega)
  exact (Tryz.strings_Join g o k xs ⟨#[c]⟩ w (fun j x hj => hc j _ (by rw [strsC, List.getElem?_map, hj]; rfl)) (by omega) (by omega) hk (by show (join _ [c]).length ≤ _; omega)).mono fun e w' ⟨he, hw⟩ => ⟨he, hw⟩
theorem own_other {w : World} {base e size n bx t : Nat} {v : Value} {xs : List Value} {cs : Array Value} (h : w.ownsRow base e size v n xs) (hb : Blk w bx t cs) (hte : t ≠ e) (i : Nat) (u : Value) : (w.setCell ⟨bx, i, none⟩ u).ownsRow base e size v n xs :=
  h.kept (only_setCell (World.grownBy.refl w (some bx)) (.inl rfl) u) (.inr (fun e' => by
    obtain ⟨_, ⟨rfl, _⟩ | ⟨g, cap, cur, rfl, _, hh, _⟩⟩ := h
    · simp [Value.ownBlock] at e'
    · have hg : g = bx := by simpa [Value.ownBlock] using e'
      have h2 : w.heap[g]? = some (.cells cs t (0, 0)) := by rw [hg]; exact hb
      rw [h2] at hh
      injection hh with hh
      injection hh with _ hh
      exact hte hh))
theorem StOk.more {l : List St} {A : Option Addr} {c B C : Nat} {w : World} (h : StOk l A c B w) (hC : B ≤ C) (hw : C ≤ w.heap.size) : StOk l A c C w :=
  ⟨h.nm, fun p hp => ⟨(h.needs p hp).1, (h.needs p hp).2.more hC⟩, h.len, h.cap, h.row.more hC, hw⟩
/-- What an entry of a kind does. -/
def StepR (s : Se) (m : Me) (B base bx : Nat) (a : Ia) (st : In) (E : Int) (st' : In) (e : Ending) (w' : World) : Prop :=
  e = .returned (.int .i64 E) ∧ (E ≠ 0 → Isp s m B base bx a st w') ∧ (E = 0 → ∃ a', Isp s m B base bx a' st' w')
theorem followE_len {l : List St} {evs : List Ev} (h : (followE l evs).2 = 0) : evs.length ≤ 60 := by
  unfold followE at h
  split at h
  · split at h
    · cases h
    · omega
  · rename_i h1; exact absurd h h1
theorem Isp.setEv {s : Se} {m : Me} {B base bx : Nat} {a : Ia} {st : In} {w : World} (h : Isp s m B base bx a st w) {A : Option Addr} {c n : Nat} {evs : List Ev} (hn : evs.length = n) (hv : w.ownsRow base 166 3 (.slice A n c) n (rowsC evF evs)) (hl : evs.length ≤ 60) :
    Isp s m B base bx { a with eA := A, ec := c } { st with ev := evs } (w.setCell ⟨bx, 13, none⟩ (.slice A n c)) := by
  subst hn
  exact ⟨h.set.below ((Below.refl _ _).setCell (p := ⟨bx, 13, none⟩) (Nat.le_trans h.le h.lo) _) (Nat.le_refl _), Blk.set_ h.blk 13 _, own_other hv h.blk (by decide) _ _, own_other h.sc h.blk (by decide) _ _, own_other h.ms h.blk (by decide) _ _, h.le, h.lo, ⟨hl, h.lim.sc, h.lim.ms, h.lim.pos⟩⟩
theorem rowsC_snoc1 {α : Type} (f : α → List Value) (l : List α) (x : α) : rowsC f (l ++ [x]) = rowsC f l ++ f x := by simp [rowsC]
/-- The words of an entry, joined. -/
def joinW (ws : List ByteArray) : ByteArray := strB (join (ws.map (·.data.toList)) [32])
def lateB (st : In) (x : Ev) : Bool := decide (0 < st.sc.length) && decide (x.mi < lastS st.sc)
/-- The error of an event, and the state behind it. -/
def tuneE (s : Se) (st : In) (ws : List ByteArray) : Int :=
  if numsO ws = false then 7 else if peT (joinW ws) ≠ 0 then peT (joinW ws) else if lateB st (evOf (joinW ws)) = true then 9 else (followE s.st (st.ev ++ [evOf (joinW ws)])).2
def tuneS (st : In) (ws : List ByteArray) : In := { st with ev := st.ev ++ [evOf (joinW ws)] }
/-- Words behind the name of an entry. -/
structure WsOk (ws : List ByteArray) (A : Option Addr) (c B : Nat) (w : World) : Prop where
  row : Row w B 1 A ws.length (strsC ws)
  base : B ≤ w.heap.size
  len : ws.length ≤ c
  few : ws.length ≤ 1000
  sz : ∀ s ∈ ws, s.size ≤ 1000
  jn : (joinW ws).size ≤ 10000

set_option maxRecDepth 100000 in
set_option maxHeartbeats 4000000 in
theorem tune_any (s : Se) (m : Me) (B base bx : Nat) (a : Ia) (st : In) (by_ : ByteArray) (ws : List ByteArray) (A : Option Addr) (c C : Nat) (w : World) (h : Isp s m B base bx a st w) (hw : WsOk ws A c C w) (hL : LibW w) (hne : ws ≠ []) :
    Calls Tryz.prog 64 #[.pointer (some ⟨bx, 0, none⟩), .string by_, .slice A ws.length c] w fun e w' => StepR s m B base bx a st (tuneE s st ws) (tuneS st ws) e w' ∧ Below base w w' := by
  obtain ⟨i0, hi, hz0, hz1, hz2⟩ := info_parts infoEv
  have HI := Lib.hid h; have HW := Lib.hid hw; have HL := Lib.hid hL; have HNE := Lib.hid hne; clear hne
  have hbw : base ≤ w.heap.size := Nat.le_trans h.lo (Nat.le_of_lt h.blk.lt)
  have HN := Lib.hid (numbers_any ws A c C w hw.row hw.base (by have := hw.few; omega) (fun x hx => Nat.le_trans (hw.sz x hx) (by decide)) hL)
  clear h hw hL
  have HE1 : Hid (numsO ws = false → tuneE s st ws = 7) := Lib.hid fun e => by unfold tuneE; rw [if_pos e]
  have HE2 : Hid (numsO ws = true → peT (joinW ws) ≠ 0 → tuneE s st ws = peT (joinW ws)) := Lib.hid fun e e1 => by unfold tuneE; rw [if_neg (by simp [e]), if_pos e1]
  have HE3 : Hid (numsO ws = true → peT (joinW ws) = 0 → lateB st (evOf (joinW ws)) = true → tuneE s st ws = 9) := Lib.hid fun e e1 e2 => by unfold tuneE; rw [if_neg (by simp [e]), if_neg (by simp [e1]), if_pos e2]
  have HE4 : Hid (numsO ws = true → peT (joinW ws) = 0 → lateB st (evOf (joinW ws)) = false → tuneE s st ws = (followE s.st (st.ev ++ [evOf (joinW ws)])).2) := Lib.hid fun e e1 e2 => by unfold tuneE; rw [if_neg (by simp [e]), if_neg (by simp [e1]), if_neg (by simp [e2])]
  have HST : Hid (tuneS st ws = { st with ev := st.ev ++ [evOf (joinW ws)] }) := Lib.hid rfl
  have HJN : Hid (∀ W, Below w.heap.size w W → Calls Tryz.prog 31 #[.slice A ws.length c, .string ⟨#[32]⟩] W fun e w' => e = .returned (.string (joinW ws)) ∧ Below W.heap.size W w') := Lib.hid fun W hW => join_row ws 32 A c C W (HW.out.row.below hW HW.out.base) (Nat.le_trans HW.out.base hW.size) HNE.out HW.out.len (by have := HW.out.jn; unfold joinW at this; rw [strB_size] at this; omega) (by have := HW.out.few; omega)
  have HPE : Hid (∀ W, Below w.heap.size w W → Calls Tryz.prog 90 #[.string (joinW ws)] W fun e w' => PeR (joinW ws) e ∧ Below W.heap.size W w') := Lib.hid fun W hW => parseEvent_any _ W HW.out.jn (HL.out.below hW (Nat.le_refl _))
  clear HL HW
  generalize tuneE s st ws = E at *
  generalize tuneS st ws = st' at *
  generalize joinW ws = jt at *
  go_enter Tryz.func64, Tryz.ntmps64
  go_wp2_with fail
  refine HN.out.mono ?_
  rintro e w1 ⟨hN, hB1⟩
  rcases hN with ⟨n0, rfl⟩ | ⟨n1, v, rfl, _⟩
  · have HE := Lib.hid (HE1.out n0)
    have HX := Lib.hid (HI.out.below hB1 (Nat.le_refl _))
    clear n0
    go_wp2
    go_ret
    exact ⟨⟨by rw [HE.out]; rfl, fun _ => HX.out, fun e => by rw [HE.out] at e; cases e⟩, hB1.mono hbw⟩
  have N1 := Lib.hid n1
  clear n1 HE1 HN
  go_wp2_with fail
  refine (HJN.out w1 hB1).mono ?_
  rintro e w2 ⟨rfl, hB2⟩
  have hBB := hB1.trans (hB2.mono hB1.size)
  go_wp2_with fail
  refine (HPE.out w2 hBB).mono ?_
  rintro e w3 ⟨hP, hB3⟩
  have hBC := hBB.trans (hB3.mono hBB.size)
  unfold PeR peVal at hP
  subst hP
  clear hB1 hB2 hB3 hBB HJN HPE
  by_cases hp : peT jt = 0
  · have HP := Lib.hid hp
    rw [hp]
    obtain ⟨x, hx⟩ : ∃ x, evOf jt = x := ⟨_, rfl⟩
    rw [hx] at HE3 HE4 HST
    rw [if_pos rfl, hx]
    clear hx hp HE2
    obtain ⟨xm, xs, xw⟩ := x
    unfold evC
    dsimp only
    have hB4 : Below w.heap.size w (w3.alloc (.cells #[.int .i64 xm, .int .i64 xs, .int .i64 xw] 166)) := hBC.alloc hBC.size _
    have b4 := Blk.new w3 166 #[.int .i64 xm, .int .i64 xs, .int .i64 xw]
    generalize hW4 : w3.alloc (.cells #[.int .i64 xm, .int .i64 xs, .int .i64 xw] 166) = W4 at *
    go_upto_region 7 with fail
    clear hW4
    have hg9 : w.heap.size ≤ w3.heap.size := hBC.size
    have lg9 := b4.lt
    have d0 := b4.cell 0
    have d1 := b4.cell 1
    have d2 := b4.cell 2
    generalize w3.heap.size = g9 at *
    have hX4 := HI.out.below hB4 (Nat.le_refl _)
    have HX4 := Lib.hid hX4
    have HLS : Hid (∀ W, Below W4.heap.size W4 W → Calls Tryz.prog 91 #[.pointer (some ⟨bx, 0, none⟩)] W fun e w' => e = .returned (.int .i64 (lastS st.sc)) ∧ w' = W) := Lib.hid fun W hW => lastScan_any s m B base bx a st W (HX4.out.below hW (Nat.le_refl _))
    obtain ⟨c0, c1, c2, c3, c4, c5, c6, c7, c8, c9, c10, c11, c12, c13, c14, c15, c16, cf⟩ := blk17 hX4.blk
    have lb := hX4.blk.lt
    clear hX4 c0 c1 c2 c3 c4 c5 c6 c7 c8 c9 c10 c11 c12 c13 c15 c16
    go_cut [31] (fun s31 wx => s31 = .bool (lateB st ⟨xm, xs, xw⟩) ∧ Below W4.heap.size W4 wx)
    case first => as_aux_lemma =>
      rcases Nat.eq_zero_or_pos st.sc.length with h0 | h0
      · have hT : Hid (lateB st ⟨xm, xs, xw⟩ = false) := Lib.hid (by unfold lateB; rw [h0]; rfl)
        rw [h0] at c14
        refine wp_region_b 15 (by kernel_rfl) (by kernel_rfl) ?_; simp only [List.take, List.drop]
        repeat (first
          | (apply StepsD.run
             · go_simp
               done
             · intro w' hS K hK
               have hc := (bcell hS).1
               have hf := (bcell hS).2
               have hz := hS.size
               try simp at hz
               go_simp
               try go_bits
               first
                 | exact hK _ hS
                 | fail
                 | exact hK _ (by repeat (first | (with_reducible exact Below.refl _ _) | (with_reducible assumption) | ((with_reducible refine Below.setCell ?_ ?_ _); rotate_left; · (first | exact Nat.le_refl _ | (simp; done) | (simp; omega) | omega)) | ((with_reducible refine Below.alloc ?_ ?_ _); rotate_left; · (first | exact Nat.le_refl _ | (simp; done) | (simp; omega) | omega)) | (with_reducible apply Below.drew) | (with_reducible apply below_drewN') | (refine Below.trans ?_ (Below.mono (by assumption) (by first | exact Nat.le_refl _ | (simp; done) | (simp; omega) | omega))) | exact Below.refl _ _ | assumption))
             · simp [Act.put]
               done)
          | (apply StepsD.pass
             · first | (go_simp; done) | rfl
             · simp only [Act.put, List.setIfInBounds_toArray, List.set_cons_succ, List.set_cons_zero]
               rfl))
        intro w9 hS9
        go_wp2_with fail
        go_meet
        exact ⟨by rw [hT.out], hS9⟩
      · have hT : Hid (lateB st ⟨xm, xs, xw⟩ = decide (xm < lastS st.sc)) := Lib.hid (by unfold lateB; rw [decide_eq_true h0]; rfl)
        have h0i : (0 : Int) < (st.sc.length : Int) := by omega
        refine wp_region_b 15 (by kernel_rfl) (by kernel_rfl) ?_; simp only [List.take, List.drop]
        repeat (first
          | (apply StepsD.run
             · go_simp
               done
             · intro w' hS K hK
               have hc := (bcell hS).1
               have hf := (bcell hS).2
               have hz := hS.size
               try simp at hz
               go_simp
               try go_bits
               first
                 | exact hK _ hS
                 | (go_at_call 91; (refine (HLS.out _ hS).mono ?_); rintro e w1 ⟨rfl, rfl⟩; exact hK _ hS)
                 | exact hK _ (by repeat (first | (with_reducible exact Below.refl _ _) | (with_reducible assumption) | ((with_reducible refine Below.setCell ?_ ?_ _); rotate_left; · (first | exact Nat.le_refl _ | (simp; done) | (simp; omega) | omega)) | ((with_reducible refine Below.alloc ?_ ?_ _); rotate_left; · (first | exact Nat.le_refl _ | (simp; done) | (simp; omega) | omega)) | (with_reducible apply Below.drew) | (with_reducible apply below_drewN') | (refine Below.trans ?_ (Below.mono (by assumption) (by first | exact Nat.le_refl _ | (simp; done) | (simp; omega) | omega))) | exact Below.refl _ _ | assumption))
             · simp [Act.put]
               done)
          | (apply StepsD.pass
             · first | (go_simp; done) | rfl
             · simp only [Act.put, List.setIfInBounds_toArray, List.set_cons_succ, List.set_cons_zero]
               rfl))
        refine StepsD.done ?_
        intro w9 hS9
        go_wp2_with fail
        go_meet
        exact ⟨by rw [hT.out], hS9⟩
    case rest =>
    obtain ⟨rfl, hZ⟩ := hcut
    clear c14 cf lb d0 d1 d2 HLS
    rename World => W5
    have hB5 := hB4.trans (hZ.mono hB4.size)
    have b5 := b4.below hZ lg9
    have hX5 := HX4.out.below hZ (Nat.le_refl _)
    have HX5 := Lib.hid hX5
    have hl5 : g9 < W5.heap.size := b5.lt
    obtain ⟨c0, c1, c2, c3, c4, c5, c6, c7, c8, c9, c10, c11, c12, c13, c14, c15, c16, cf⟩ := blk17 hX5.blk
    have d0 := b5.cell 0
    have d1 := b5.cell 1
    have d2 := b5.cell 2
    have lb := hX5.blk.lt
    clear hX5 c0 c1 c2 c3 c4 c5 c6 c7 c8 c9 c10 c11 c12 c14 c15 c16 b4 hZ hB4 HX4 lg9 b5
    obtain ⟨lt, hlt⟩ : ∃ lt, lateB st ⟨xm, xs, xw⟩ = lt := ⟨_, rfl⟩
    rw [hlt]
    have HLT := Lib.hid hlt; clear hlt
    cases lt with
    | true =>
      have HE := Lib.hid (HE3.out N1.out HP.out HLT.out)
      go_wp2
      go_ret
      exact ⟨⟨by rw [HE.out]; rfl, fun _ => HX5.out, fun e => by rw [HE.out] at e; cases e⟩, hB5.mono hbw⟩
    | false =>
      have HE := Lib.hid (HE4.out N1.out HP.out HLT.out)
      have HCL : Hid (∀ W, Below W5.heap.size W5 W → Calls Tryz.prog 92 #[.slice a.eA st.ev.length a.ec] W fun e w' => ∃ v, e = .returned v ∧ w'.ownsRow W.heap.size 166 3 v st.ev.length (rowsC evF st.ev) ∧ Below W.heap.size W w') := Lib.hid fun W hW => (by
        have hI := HX5.out.below hW (Nat.le_refl _)
        exact cloneEv_any st.ev a.eA a.ec W (Src.mk (own_row_ hI.ev) (own_src hI.ev).2.2) (by have := hI.lim.ev; omega))
      have hlev := HX5.out.lim.ev
      clear HE3 HE4 HLT
      go_upto_region 9 with fail
      refine wp_region_w (Gr _) (by kernel_rfl) (Below.refl _ _).drew ?_
      refine wpW_det (t' := ?ct0R6) 0 (by rfl) (by kernel_rfl) (NQ_free _) (by kernel_rfl) ?cw0R6 ?ch0R6 ?ca0R6 (Eq.refl _) ?cH0R6
      case cw0R6 => (go_simp; done)
      case ch0R6 =>
        intro ds w' hS K hK
        have hc := (bcell hS).1
        have hf := (bcell hS).2
        have hz := hS.size
        try simp at hz
        go_simp
        try go_bits
        first
          | exact hK _ hS (Gr.refl _)
          | exact hK _ (by repeat (first | (with_reducible exact Below.refl _ _) | (with_reducible assumption) | ((with_reducible refine Below.setCell ?_ ?_ _); rotate_left; · (first | exact Nat.le_refl _ | (simp; done) | (simp; omega) | omega)) | ((with_reducible refine Below.alloc ?_ ?_ _); rotate_left; · (first | exact Nat.le_refl _ | (simp; done) | (simp; omega) | omega)) | (with_reducible apply Below.drew) | (with_reducible apply below_drewN') | (refine Below.trans ?_ (Below.mono (by assumption) (by first | exact Nat.le_refl _ | (simp; done) | (simp; omega) | omega))) | exact Below.refl _ _ | assumption)) (by repeat (first | (with_reducible exact Below.refl _ _) | (with_reducible assumption) | ((with_reducible refine Below.setCell ?_ ?_ _); rotate_left; · (first | exact Nat.le_refl _ | (simp; done) | (simp; omega) | omega)) | ((with_reducible refine Below.alloc ?_ ?_ _); rotate_left; · (first | exact Nat.le_refl _ | (simp; done) | (simp; omega) | omega)) | (with_reducible apply Below.drew) | (with_reducible apply below_drewN') | (refine Below.trans ?_ (Below.mono (by assumption) (by first | exact Nat.le_refl _ | (simp; done) | (simp; omega) | omega))) | exact Below.refl _ _ | assumption))
      case ca0R6 => (first | (simp [Act.put]; done) | (simp [Act.put, *]; done))
      try dsimp only
      refine wpW_det (t' := ?ct1R6) 1 (by rfl) (by kernel_rfl) (NQ_free _) (by kernel_rfl) ?cw1R6 ?ch1R6 ?ca1R6 (Eq.refl _) ?cH1R6
      case cw1R6 => (go_simp; done)
      case ch1R6 =>
        intro ds w' hS K hK
        have hc := (bcell hS).1
        have hf := (bcell hS).2
        have hz := hS.size
        try simp at hz
        go_simp
        try go_bits
        first
          | exact hK _ hS (Gr.refl _)
          | exact hK _ (by repeat (first | (with_reducible exact Below.refl _ _) | (with_reducible assumption) | ((with_reducible refine Below.setCell ?_ ?_ _); rotate_left; · (first | exact Nat.le_refl _ | (simp; done) | (simp; omega) | omega)) | ((with_reducible refine Below.alloc ?_ ?_ _); rotate_left; · (first | exact Nat.le_refl _ | (simp; done) | (simp; omega) | omega)) | (with_reducible apply Below.drew) | (with_reducible apply below_drewN') | (refine Below.trans ?_ (Below.mono (by assumption) (by first | exact Nat.le_refl _ | (simp; done) | (simp; omega) | omega))) | exact Below.refl _ _ | assumption)) (by repeat (first | (with_reducible exact Below.refl _ _) | (with_reducible assumption) | ((with_reducible refine Below.setCell ?_ ?_ _); rotate_left; · (first | exact Nat.le_refl _ | (simp; done) | (simp; omega) | omega)) | ((with_reducible refine Below.alloc ?_ ?_ _); rotate_left; · (first | exact Nat.le_refl _ | (simp; done) | (simp; omega) | omega)) | (with_reducible apply Below.drew) | (with_reducible apply below_drewN') | (refine Below.trans ?_ (Below.mono (by assumption) (by first | exact Nat.le_refl _ | (simp; done) | (simp; omega) | omega))) | exact Below.refl _ _ | assumption))
      case ca1R6 => (first | (simp [Act.put]; done) | (simp [Act.put, *]; done))
      try dsimp only
      refine wpW_det (t' := ?ct2R6) 2 (by rfl) (by kernel_rfl) (NQ_free _) (by kernel_rfl) ?cw2R6 ?ch2R6 ?ca2R6 (Eq.refl _) ?cH2R6
      case cw2R6 => (go_simp; done)
      case ch2R6 =>
        intro ds w' hS K hK
        have hc := (bcell hS).1
        have hf := (bcell hS).2
        have hz := hS.size
        try simp at hz
        go_simp
        try go_bits
        first
          | exact hK _ hS (Gr.refl _)
          | exact hK _ (by repeat (first | (with_reducible exact Below.refl _ _) | (with_reducible assumption) | ((with_reducible refine Below.setCell ?_ ?_ _); rotate_left; · (first | exact Nat.le_refl _ | (simp; done) | (simp; omega) | omega)) | ((with_reducible refine Below.alloc ?_ ?_ _); rotate_left; · (first | exact Nat.le_refl _ | (simp; done) | (simp; omega) | omega)) | (with_reducible apply Below.drew) | (with_reducible apply below_drewN') | (refine Below.trans ?_ (Below.mono (by assumption) (by first | exact Nat.le_refl _ | (simp; done) | (simp; omega) | omega))) | exact Below.refl _ _ | assumption)) (by repeat (first | (with_reducible exact Below.refl _ _) | (with_reducible assumption) | ((with_reducible refine Below.setCell ?_ ?_ _); rotate_left; · (first | exact Nat.le_refl _ | (simp; done) | (simp; omega) | omega)) | ((with_reducible refine Below.alloc ?_ ?_ _); rotate_left; · (first | exact Nat.le_refl _ | (simp; done) | (simp; omega) | omega)) | (with_reducible apply Below.drew) | (with_reducible apply below_drewN') | (refine Below.trans ?_ (Below.mono (by assumption) (by first | exact Nat.le_refl _ | (simp; done) | (simp; omega) | omega))) | exact Below.refl _ _ | assumption))
      case ca2R6 => (first | (simp [Act.put]; done) | (simp [Act.put, *]; done))
      try dsimp only
      refine wpW_det (t' := ?ct3R6) 3 (by rfl) (by kernel_rfl) (NQ_free _) (by kernel_rfl) ?cw3R6 ?ch3R6 ?ca3R6 (Eq.refl _) ?cH3R6
      case cw3R6 => (go_simp; done)
      case ch3R6 =>
        intro ds w' hS K hK
        have hc := (bcell hS).1
        have hf := (bcell hS).2
        have hz := hS.size
        try simp at hz
        go_simp
        try go_bits
        first
          | exact hK _ hS (Gr.refl _)
          | exact hK _ (by repeat (first | (with_reducible exact Below.refl _ _) | (with_reducible assumption) | ((with_reducible refine Below.setCell ?_ ?_ _); rotate_left; · (first | exact Nat.le_refl _ | (simp; done) | (simp; omega) | omega)) | ((with_reducible refine Below.alloc ?_ ?_ _); rotate_left; · (first | exact Nat.le_refl _ | (simp; done) | (simp; omega) | omega)) | (with_reducible apply Below.drew) | (with_reducible apply below_drewN') | (refine Below.trans ?_ (Below.mono (by assumption) (by first | exact Nat.le_refl _ | (simp; done) | (simp; omega) | omega))) | exact Below.refl _ _ | assumption)) (by repeat (first | (with_reducible exact Below.refl _ _) | (with_reducible assumption) | ((with_reducible refine Below.setCell ?_ ?_ _); rotate_left; · (first | exact Nat.le_refl _ | (simp; done) | (simp; omega) | omega)) | ((with_reducible refine Below.alloc ?_ ?_ _); rotate_left; · (first | exact Nat.le_refl _ | (simp; done) | (simp; omega) | omega)) | (with_reducible apply Below.drew) | (with_reducible apply below_drewN') | (refine Below.trans ?_ (Below.mono (by assumption) (by first | exact Nat.le_refl _ | (simp; done) | (simp; omega) | omega))) | exact Below.refl _ _ | assumption))
      case ca3R6 => (first | (simp [Act.put]; done) | (simp [Act.put, *]; done))
      try dsimp only
      refine wpW_det (t' := ?ct4R6) 4 (by rfl) (by kernel_rfl) (NQ_free _) (by kernel_rfl) ?cw4R6 ?ch4R6 ?ca4R6 (Eq.refl _) ?cH4R6
      case cw4R6 => (go_simp; done)
      case ch4R6 =>
        intro ds w' hS K hK
        have hc := (bcell hS).1
        have hf := (bcell hS).2
        have hz := hS.size
        try simp at hz
        go_simp
        try go_bits
        first
          | exact hK _ hS (Gr.refl _)
          | exact hK _ (by repeat (first | (with_reducible exact Below.refl _ _) | (with_reducible assumption) | ((with_reducible refine Below.setCell ?_ ?_ _); rotate_left; · (first | exact Nat.le_refl _ | (simp; done) | (simp; omega) | omega)) | ((with_reducible refine Below.alloc ?_ ?_ _); rotate_left; · (first | exact Nat.le_refl _ | (simp; done) | (simp; omega) | omega)) | (with_reducible apply Below.drew) | (with_reducible apply below_drewN') | (refine Below.trans ?_ (Below.mono (by assumption) (by first | exact Nat.le_refl _ | (simp; done) | (simp; omega) | omega))) | exact Below.refl _ _ | assumption)) (by repeat (first | (with_reducible exact Below.refl _ _) | (with_reducible assumption) | ((with_reducible refine Below.setCell ?_ ?_ _); rotate_left; · (first | exact Nat.le_refl _ | (simp; done) | (simp; omega) | omega)) | ((with_reducible refine Below.alloc ?_ ?_ _); rotate_left; · (first | exact Nat.le_refl _ | (simp; done) | (simp; omega) | omega)) | (with_reducible apply Below.drew) | (with_reducible apply below_drewN') | (refine Below.trans ?_ (Below.mono (by assumption) (by first | exact Nat.le_refl _ | (simp; done) | (simp; omega) | omega))) | exact Below.refl _ _ | assumption))
      case ca4R6 => (first | (simp [Act.put]; done) | (simp [Act.put, *]; done))
      try dsimp only
      refine wpW_det (t' := ?ct6R6) 6 (by rfl) (by kernel_rfl) (NQ_free _) (by kernel_rfl) ?cw6R6 ?ch6R6 ?ca6R6 (Eq.refl _) ?cH6R6
      case cw6R6 => (go_simp; done)
      case ch6R6 =>
        intro ds w' hS K hK
        have hc := (bcell hS).1
        have hf := (bcell hS).2
        have hz := hS.size
        try simp at hz
        go_simp
        try go_bits
        first
          | exact hK _ hS (Gr.refl _)
          | exact hK _ (by repeat (first | (with_reducible exact Below.refl _ _) | (with_reducible assumption) | ((with_reducible refine Below.setCell ?_ ?_ _); rotate_left; · (first | exact Nat.le_refl _ | (simp; done) | (simp; omega) | omega)) | ((with_reducible refine Below.alloc ?_ ?_ _); rotate_left; · (first | exact Nat.le_refl _ | (simp; done) | (simp; omega) | omega)) | (with_reducible apply Below.drew) | (with_reducible apply below_drewN') | (refine Below.trans ?_ (Below.mono (by assumption) (by first | exact Nat.le_refl _ | (simp; done) | (simp; omega) | omega))) | exact Below.refl _ _ | assumption)) (by repeat (first | (with_reducible exact Below.refl _ _) | (with_reducible assumption) | ((with_reducible refine Below.setCell ?_ ?_ _); rotate_left; · (first | exact Nat.le_refl _ | (simp; done) | (simp; omega) | omega)) | ((with_reducible refine Below.alloc ?_ ?_ _); rotate_left; · (first | exact Nat.le_refl _ | (simp; done) | (simp; omega) | omega)) | (with_reducible apply Below.drew) | (with_reducible apply below_drewN') | (refine Below.trans ?_ (Below.mono (by assumption) (by first | exact Nat.le_refl _ | (simp; done) | (simp; omega) | omega))) | exact Below.refl _ _ | assumption))
      case ca6R6 => (first | (simp [Act.put]; done) | (simp [Act.put, *]; done))
      try dsimp only
      clear d0 d1 d2 c13
      refine wpW_branch [5, 7] (by kernel_rfl) (by simp) ?_
      intro w1 hg1 hS1
      refine each_cons ?_ (each_cons ?_ (each_nil))
      · refine wpOp_go (by rfl) (Eq.refl _) (by go_simp; done) ?_
        intro K hK
        go_simp
        try simp only [Act.put]
        refine (HCL.out _ hS1).mono ?_
        rintro e wq ⟨v5, rfl, hv, hBq⟩
        replace hv := hv.mono (base' := W5.heap.size) (Below.size hS1)
        try replace bn := Blk.gr bn hBq
        refine hK _ _ (Below.trans hS1 (hBq.mono (Below.size hS1))) ?_
        clear hK K hBq
        refine wpW_branch [7] (by kernel_rfl) (by simp) ?_
        intro w2 hg2 hS2
        replace hv := own_below hv hg2
        refine each_cons ?_ (each_nil)
        refine wpOp_go (by rfl) (Eq.refl _) (by go_simp; done) ?_
        intro K hK
        go_simp
        try simp only [Act.put]
        have bn := Blk.new w2 166 #[.int .i64 xm, .int .i64 xs, .int .i64 xw]
        try replace hv := hv.alloc (.cells #[.int .i64 xm, .int .i64 xs, .int .i64 xw] 166 (0, 0))
        generalize w2.heap.size = gn at *
        refine hK _ _ (Below.alloc hS2 (Below.size hS2) _) ?_
        clear hK K
        refine wpW_branch [8] (by kernel_rfl) (by simp) ?_
        intro w3 hg3 hS3
        replace hv := own_below hv hg3
        replace bn := Blk.gr bn hg3
        refine each_cons ?_ (each_nil)
        refine wpOp_go (by rfl) (Eq.refl _) (by go_simp; done) ?_
        intro K hK
        have hsr : Src w3 3 (some ⟨gn, 0, none⟩) 1 1 [.int .i64 xm, .int .i64 xs, .int .i64 xw] := Src.mk (B := w3.heap.size) ⟨rfl, fun _ => ⟨gn, 0, rfl, bn.lt, fun j u hu => by rw [Nat.zero_add, bn.cell j, List.getElem?_toArray]; exact hu⟩⟩ (fun e => by cases e)
        have hsd := Below.size hS3
        refine wp_append_row _ (.tmp 51) (.tmp 53) 40 rfl W5.heap.size 166 i0 _ 3 24 Tryz.underlying40 hi hz0 hz1 hz2 rfl (by decide) _ st.ev.length (rowsC evF st.ev) rfl hv (some ⟨gn, 0, none⟩) 1 1 [.int .i64 xm, .int .i64 xs, .int .i64 xw] rfl hsr (by simp [Value.oneCell']) (by unfold maxLen; omega) (by omega) hsd ?_
        intro v9 wa hv9 hgrow _
        have hS9 : Below W5.heap.size W5 wa := below_own hS3 (Nat.le_refl _) hv hgrow
        clear hgrow hsr bn hv hsd
        try simp only [Act.put]
        try simp only [List.setIfInBounds_toArray]
        refine hK _ _ hS9 ?_
        clear hK K hS9
        refine wpW_det (t' := ?ct9R7) 9 (by rfl) (by kernel_rfl) (NQ_free _) (by kernel_rfl) ?cw9R7 ?ch9R7 ?ca9R7 (Eq.refl _) ?cH9R7
        case cw9R7 => (go_simp; done)
        case ch9R7 =>
          intro ds w' hS K hK
          have hc := (bcell hS).1
          have hf := (bcell hS).2
          have hz := hS.size
          try simp at hz
          go_simp
          try go_bits
          first
            | exact hK _ hS (Gr.refl _)
            | exact hK _ (by repeat (first | (with_reducible exact Below.refl _ _) | (with_reducible assumption) | ((with_reducible refine Below.setCell ?_ ?_ _); rotate_left; · (first | exact Nat.le_refl _ | (simp; done) | (simp; omega) | omega)) | ((with_reducible refine Below.alloc ?_ ?_ _); rotate_left; · (first | exact Nat.le_refl _ | (simp; done) | (simp; omega) | omega)) | (with_reducible apply Below.drew) | (with_reducible apply below_drewN') | (refine Below.trans ?_ (Below.mono (by assumption) (by first | exact Nat.le_refl _ | (simp; done) | (simp; omega) | omega))) | exact Below.refl _ _ | assumption)) (by repeat (first | (with_reducible exact Below.refl _ _) | (with_reducible assumption) | ((with_reducible refine Below.setCell ?_ ?_ _); rotate_left; · (first | exact Nat.le_refl _ | (simp; done) | (simp; omega) | omega)) | ((with_reducible refine Below.alloc ?_ ?_ _); rotate_left; · (first | exact Nat.le_refl _ | (simp; done) | (simp; omega) | omega)) | (with_reducible apply Below.drew) | (with_reducible apply below_drewN') | (refine Below.trans ?_ (Below.mono (by assumption) (by first | exact Nat.le_refl _ | (simp; done) | (simp; omega) | omega))) | exact Below.refl _ _ | assumption))
        case ca9R7 => (first | (simp [Act.put]; done) | (simp [Act.put, *]; done))
        try dsimp only
        refine wpW_end (by kernel_rfl) ?_
        intro we hg hS
        unfold NQ
        dsimp only
        replace hv9 := own_below hv9 hg
        obtain ⟨A9, c9, e9, _, _, _⟩ := Row.ownd hv9
        subst e9
        have hv8 : we.ownsRow W5.heap.size 166 3 (.slice A9 (st.ev.length + 1) c9) (st.ev.length + 1) (rowsC evF (st.ev ++ [⟨xm, xs, xw⟩])) := by rw [rowsC_snoc1]; exact hv9
        have HV8 := Lib.hid hv8
        have hXe := HX5.out.below hS (Nat.le_refl _)
        have HCE : Hid (Calls Tryz.prog 93 #[.slice m.sA s.st.length m.sc, .slice A9 (st.ev.length + 1) c9] we fun e w' => e = .returned (.tuple #[.int .i64 (followE s.st (st.ev ++ [⟨xm, xs, xw⟩])).1, .int .i64 (followE s.st (st.ev ++ [⟨xm, xs, xw⟩])).2]) ∧ Below we.heap.size we w') := Lib.hid (by
          have := checkEvents_any s.st m.sA m.sc we.heap.size (st.ev ++ [⟨xm, xs, xw⟩]) A9 c9 we (hXe.set.st.more hXe.set.base (Nat.le_refl _)) (by rw [List.length_append]; exact own_row_ hv8)
          simpa only [List.length_append, List.length_cons, List.length_nil, Nat.zero_add] using this)
        have HXe := Lib.hid hXe
        obtain ⟨c0, c1, c2, c3, c4, c5, c6, c7, c8, c9', c10, c11, c12, c13, c14, c15, c16, cf'⟩ := blk17 hXe.blk
        have lbe := hXe.blk.lt
        have hB6 := hB5.trans (hS.mono hB5.size)
        have HFL := Lib.hid (followE_len (l := s.st) (evs := st.ev ++ [⟨xm, xs, xw⟩]))
        clear hXe hv8 hv9 c0 c1 c2 c3 c4 c6 c7 c8 c9' c10 c11 c12 c13 c14 c15 c16 hS hg
        go_wp2_with fail
        refine HCE.out.mono ?_
        rintro e wz ⟨rfl, hBz⟩
        have hB7 := hB6.trans (hBz.mono hB6.size)
        have hXz := HXe.out.below hBz (Nat.le_refl _)
        have HXz := Lib.hid hXz
        have HV7 := Lib.hid (own_below HV8.out hBz)
        obtain ⟨c0, c1, c2, c3, c4, c5', c6, c7, c8, c9', c10, c11, c12, c13, c14, c15, c16, cfz⟩ := blk17 hXz.blk
        have lbz := hXz.blk.lt
        clear hXz HCE HXe HV8 hBz c0 c1 c2 c3 c4 c5 c5' c6 c7 c8 c9' c10 c11 c12 c14 c15 c16 cf' lbe cf lb hl5
        obtain ⟨fe, hfe⟩ : ∃ fe, (followE s.st (st.ev ++ [⟨xm, xs, xw⟩])).2 = fe := ⟨_, rfl⟩
        rw [hfe] at HE HFL ⊢
        clear hfe
        have hbw5 : base ≤ W5.heap.size := Nat.le_trans hbw hB5.size
        by_cases hf : fe = 0
        · subst hf
          have HIS := Lib.hid (HXz.out.setEv (evs := st.ev ++ [⟨xm, xs, xw⟩]) (n := st.ev.length + 1) (by simp) (HV7.out.mono hbw5) (HFL.out rfl))
          have HFB := Lib.hid ((hB7.mono hbw).setCell (p := ⟨bx, 13, none⟩) HXz.out.lo (.slice A9 (st.ev.length + 1) c9))
          go_wp2
          go_ret
          exact ⟨⟨by rw [HE.out]; rfl, fun e => absurd HE.out e, fun _ => ⟨_, by rw [HST.out]; exact HIS.out⟩⟩, HFB.out⟩
        · have hf1 : (fe != 0) = true := by simpa using hf
          have HF := Lib.hid hf; clear hf
          go_wp2
          go_ret
          exact ⟨⟨by rw [HE.out]; rfl, fun _ => HXz.out, fun e => absurd (HE.out.symm.trans e) HF.out⟩, hB7.mono hbw⟩
      · refine wpOp_go (by rfl) (Eq.refl _) (by go_simp; done) ?_
        intro K hK
        go_simp
        try simp only [Act.put]
        have bn := Blk.new w1 166 #[.int .i64 xm, .int .i64 xs, .int .i64 xw]
        try replace hv := hv.alloc (.cells #[.int .i64 xm, .int .i64 xs, .int .i64 xw] 166 (0, 0))
        generalize w1.heap.size = gn at *
        refine hK _ _ (Below.alloc hS1 (Below.size hS1) _) ?_
        clear hK K
        refine wpW_branch [5] (by kernel_rfl) (by simp) ?_
        intro w2 hg2 hS2
        replace bn := Blk.gr bn hg2
        refine each_cons ?_ (each_nil)
        refine wpOp_go (by rfl) (Eq.refl _) (by go_simp; done) ?_
        intro K hK
        go_simp
        try simp only [Act.put]
        refine (HCL.out _ hS2).mono ?_
        rintro e wq ⟨v5, rfl, hv, hBq⟩
        replace hv := hv.mono (base' := W5.heap.size) (Below.size hS2)
        try replace bn := Blk.gr bn hBq
        refine hK _ _ (Below.trans hS2 (hBq.mono (Below.size hS2))) ?_
        clear hK K hBq
        refine wpW_branch [8] (by kernel_rfl) (by simp) ?_
        intro w3 hg3 hS3
        replace hv := own_below hv hg3
        replace bn := Blk.gr bn hg3
        refine each_cons ?_ (each_nil)
        refine wpOp_go (by rfl) (Eq.refl _) (by go_simp; done) ?_
        intro K hK
        have hsr : Src w3 3 (some ⟨gn, 0, none⟩) 1 1 [.int .i64 xm, .int .i64 xs, .int .i64 xw] := Src.mk (B := w3.heap.size) ⟨rfl, fun _ => ⟨gn, 0, rfl, bn.lt, fun j u hu => by rw [Nat.zero_add, bn.cell j, List.getElem?_toArray]; exact hu⟩⟩ (fun e => by cases e)
        have hsd := Below.size hS3
        refine wp_append_row _ (.tmp 51) (.tmp 53) 40 rfl W5.heap.size 166 i0 _ 3 24 Tryz.underlying40 hi hz0 hz1 hz2 rfl (by decide) _ st.ev.length (rowsC evF st.ev) rfl hv (some ⟨gn, 0, none⟩) 1 1 [.int .i64 xm, .int .i64 xs, .int .i64 xw] rfl hsr (by simp [Value.oneCell']) (by unfold maxLen; omega) (by omega) hsd ?_
        intro v9 wa hv9 hgrow _
        have hS9 : Below W5.heap.size W5 wa := below_own hS3 (Nat.le_refl _) hv hgrow
        clear hgrow hsr bn hv hsd
        try simp only [Act.put]
        try simp only [List.setIfInBounds_toArray]
        refine hK _ _ hS9 ?_
        clear hK K hS9
        refine wpW_det (t' := ?ct9R8) 9 (by rfl) (by kernel_rfl) (NQ_free _) (by kernel_rfl) ?cw9R8 ?ch9R8 ?ca9R8 (Eq.refl _) ?cH9R8
        case cw9R8 => (go_simp; done)
        case ch9R8 =>
          intro ds w' hS K hK
          have hc := (bcell hS).1
          have hf := (bcell hS).2
          have hz := hS.size
          try simp at hz
          go_simp
          try go_bits
          first
            | exact hK _ hS (Gr.refl _)
            | exact hK _ (by repeat (first | (with_reducible exact Below.refl _ _) | (with_reducible assumption) | ((with_reducible refine Below.setCell ?_ ?_ _); rotate_left; · (first | exact Nat.le_refl _ | (simp; done) | (simp; omega) | omega)) | ((with_reducible refine Below.alloc ?_ ?_ _); rotate_left; · (first | exact Nat.le_refl _ | (simp; done) | (simp; omega) | omega)) | (with_reducible apply Below.drew) | (with_reducible apply below_drewN') | (refine Below.trans ?_ (Below.mono (by assumption) (by first | exact Nat.le_refl _ | (simp; done) | (simp; omega) | omega))) | exact Below.refl _ _ | assumption)) (by repeat (first | (with_reducible exact Below.refl _ _) | (with_reducible assumption) | ((with_reducible refine Below.setCell ?_ ?_ _); rotate_left; · (first | exact Nat.le_refl _ | (simp; done) | (simp; omega) | omega)) | ((with_reducible refine Below.alloc ?_ ?_ _); rotate_left; · (first | exact Nat.le_refl _ | (simp; done) | (simp; omega) | omega)) | (with_reducible apply Below.drew) | (with_reducible apply below_drewN') | (refine Below.trans ?_ (Below.mono (by assumption) (by first | exact Nat.le_refl _ | (simp; done) | (simp; omega) | omega))) | exact Below.refl _ _ | assumption))
        case ca9R8 => (first | (simp [Act.put]; done) | (simp [Act.put, *]; done))
        try dsimp only
        refine wpW_end (by kernel_rfl) ?_
        intro we hg hS
        unfold NQ
        dsimp only
        replace hv9 := own_below hv9 hg
        obtain ⟨A9, c9, e9, _, _, _⟩ := Row.ownd hv9
        subst e9
        have hv8 : we.ownsRow W5.heap.size 166 3 (.slice A9 (st.ev.length + 1) c9) (st.ev.length + 1) (rowsC evF (st.ev ++ [⟨xm, xs, xw⟩])) := by rw [rowsC_snoc1]; exact hv9
        have HV8 := Lib.hid hv8
        have hXe := HX5.out.below hS (Nat.le_refl _)
        have HCE : Hid (Calls Tryz.prog 93 #[.slice m.sA s.st.length m.sc, .slice A9 (st.ev.length + 1) c9] we fun e w' => e = .returned (.tuple #[.int .i64 (followE s.st (st.ev ++ [⟨xm, xs, xw⟩])).1, .int .i64 (followE s.st (st.ev ++ [⟨xm, xs, xw⟩])).2]) ∧ Below we.heap.size we w') := Lib.hid (by
          have := checkEvents_any s.st m.sA m.sc we.heap.size (st.ev ++ [⟨xm, xs, xw⟩]) A9 c9 we (hXe.set.st.more hXe.set.base (Nat.le_refl _)) (by rw [List.length_append]; exact own_row_ hv8)
          simpa only [List.length_append, List.length_cons, List.length_nil, Nat.zero_add] using this)
        have HXe := Lib.hid hXe
        obtain ⟨c0, c1, c2, c3, c4, c5, c6, c7, c8, c9', c10, c11, c12, c13, c14, c15, c16, cf'⟩ := blk17 hXe.blk
        have lbe := hXe.blk.lt
        have hB6 := hB5.trans (hS.mono hB5.size)
        have HFL := Lib.hid (followE_len (l := s.st) (evs := st.ev ++ [⟨xm, xs, xw⟩]))
        clear hXe hv8 hv9 c0 c1 c2 c3 c4 c6 c7 c8 c9' c10 c11 c12 c13 c14 c15 c16 hS hg
        go_wp2_with fail
        refine HCE.out.mono ?_
        rintro e wz ⟨rfl, hBz⟩
        have hB7 := hB6.trans (hBz.mono hB6.size)
        have hXz := HXe.out.below hBz (Nat.le_refl _)
        have HXz := Lib.hid hXz
        have HV7 := Lib.hid (own_below HV8.out hBz)
        obtain ⟨c0, c1, c2, c3, c4, c5', c6, c7, c8, c9', c10, c11, c12, c13, c14, c15, c16, cfz⟩ := blk17 hXz.blk
        have lbz := hXz.blk.lt
        clear hXz HCE HXe HV8 hBz c0 c1 c2 c3 c4 c5 c5' c6 c7 c8 c9' c10 c11 c12 c14 c15 c16 cf' lbe cf lb hl5
        obtain ⟨fe, hfe⟩ : ∃ fe, (followE s.st (st.ev ++ [⟨xm, xs, xw⟩])).2 = fe := ⟨_, rfl⟩
        rw [hfe] at HE HFL ⊢
        clear hfe
        have hbw5 : base ≤ W5.heap.size := Nat.le_trans hbw hB5.size
        by_cases hf : fe = 0
        · subst hf
          have HIS := Lib.hid (HXz.out.setEv (evs := st.ev ++ [⟨xm, xs, xw⟩]) (n := st.ev.length + 1) (by simp) (HV7.out.mono hbw5) (HFL.out rfl))
          have HFB := Lib.hid ((hB7.mono hbw).setCell (p := ⟨bx, 13, none⟩) HXz.out.lo (.slice A9 (st.ev.length + 1) c9))
          go_wp2
          go_ret
          exact ⟨⟨by rw [HE.out]; rfl, fun e => absurd HE.out e, fun _ => ⟨_, by rw [HST.out]; exact HIS.out⟩⟩, HFB.out⟩
        · have hf1 : (fe != 0) = true := by simpa using hf
          have HF := Lib.hid hf; clear hf
          go_wp2
          go_ret
          exact ⟨⟨by rw [HE.out]; rfl, fun _ => HXz.out, fun e => absurd (HE.out.symm.trans e) HF.out⟩, hB7.mono hbw⟩
  · have HP := Lib.hid (HE2.out N1.out hp)
    have h1 : (peT jt != 0) = true := by simpa using hp
    rw [if_neg hp]
    have hB4 : Below w.heap.size w (w3.alloc (.cells #[.int .i64 0, .int .i64 0, .int .i64 0] 166)) := hBC.alloc hBC.size _
    have HX := Lib.hid (HI.out.below hB4 (Nat.le_refl _))
    have HPN := Lib.hid hp
    clear hp
    go_wp2
    go_ret
    exact ⟨⟨by rw [HP.out]; rfl, fun _ => HX.out, fun e => absurd (HP.out.symm.trans e) HPN.out⟩, hB4.mono hbw⟩
end Go.Proofs.YtmdbpkomanhpoaaGreatDoor
