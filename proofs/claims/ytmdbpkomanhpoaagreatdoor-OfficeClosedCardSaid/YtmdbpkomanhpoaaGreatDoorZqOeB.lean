/- lastScan, lastEvent, readings, anew. -/
import Derived.Test.YtmdbpkomanhpoaaGreatDoorZqOeA
namespace Go.Proofs.YtmdbpkomanhpoaaGreatDoor
open Go.RowKit Go.Lib

def lastS (l : List Sc) : Int := (l.getLast?.map (·.mi)).getD 0
def lastE (l : List Ev) : Int := (l.getLast?.map (·.mi)).getD 0
/-- The positions of the scans that count. -/
def readsL (l : List Sc) : List Int := (l.filter fun x => !x.vo).map (·.po)
theorem readsL_snoc (l : List Sc) {k : Nat} (h : k < l.length) : readsL (l.take (k + 1)) = readsL (l.take k) ++ (if l[k].vo = true then [] else [l[k].po]) := by
  unfold readsL
  rw [List.take_succ_eq_append_getElem h, List.filter_append, List.map_append]
  cases hv : l[k].vo <;> simp [hv]
theorem readsL_len (l : List Sc) : (readsL l).length ≤ l.length := by
  unfold readsL; rw [List.length_map]; exact List.length_filter_le _ _
theorem scRow3 {w : World} {B : Nat} {A : Option Addr} {l : List Sc} (h : Row w B 3 A l.length (rowsC scF l)) {k : Nat} (hk : k < l.length) : ∃ g o, A = some ⟨g, o, none⟩ ∧ g < B ∧ w.cell? ⟨g, o + k * 3, none⟩ = some (.int .i64 l[k].mi) ∧ w.cell? ⟨g, o + k * 3 + 1, none⟩ = some (.int .i64 l[k].po) ∧ w.cell? ⟨g, o + k * 3 + 2, none⟩ = some (.bool l[k].vo) := by
  obtain ⟨g, o, hA, hb, hc⟩ := h.at_ scF_len hk
  exact ⟨g, o, hA, hb, hc 0 _ (by omega) rfl, hc 1 _ (by omega) rfl, hc 2 _ (by omega) rfl⟩
theorem evRow3 {w : World} {B : Nat} {A : Option Addr} {l : List Ev} (h : Row w B 3 A l.length (rowsC evF l)) {k : Nat} (hk : k < l.length) : ∃ g o, A = some ⟨g, o, none⟩ ∧ g < B ∧ w.cell? ⟨g, o + k * 3, none⟩ = some (.int .i64 l[k].mi) := by
  obtain ⟨g, o, hA, hb, hc⟩ := h.at_ evF_len hk
  exact ⟨g, o, hA, hb, hc 0 _ (by omega) rfl⟩

set_option maxRecDepth 100000 in
set_option maxHeartbeats 4000000 in
theorem lastScan_any (s : Se) (m : Me) (B base bx : Nat) (a : Ia) (st : In) (w : World) (h : Isp s m B base bx a st w) :
    Calls Tryz.prog 91 #[.pointer (some ⟨bx, 0, none⟩)] w fun e w' => e = .returned (.int .i64 (lastS st.sc)) ∧ w' = w := by
  obtain ⟨c0, c1, c2, c3, c4, c5, c6, c7, c8, c9, c10, c11, c12, c13, c14, c15, c16, cf⟩ := blk17 h.blk
  have hR := own_row_ h.sc
  have lb := h.blk.lt
  have hn : st.sc.length ≤ 1000 := Nat.le_trans h.lim.sc (by decide)
  clear h
  have HE : Hid (lastS st.sc = (st.sc.getLast?.map (·.mi)).getD 0) := Lib.hid rfl
  generalize st.sc = l at *
  rcases Nat.eq_zero_or_pos l.length with h0 | h0
  · have hl : l = [] := List.eq_nil_of_length_eq_zero h0
    subst hl
    go_enter Tryz.func91, Tryz.ntmps91
    go_wp2
    go_ret
    exact ⟨rfl, rfl⟩
  · obtain ⟨k, hk⟩ : ∃ k, l.length = k + 1 := ⟨l.length - 1, by omega⟩
    have hlt : k < l.length := by omega
    obtain ⟨g, o, hA, hg, d0, d1, d2⟩ := scRow3 hR hlt
    have HV : Hid (lastS l = l[k].mi) := Lib.hid (by
      rw [HE.out, List.getLast?_eq_getElem?, hk, Nat.add_sub_cancel, List.getElem?_eq_getElem hlt]; rfl)
    have hki : ((l.length : Nat) : Int) - 1 = (k : Int) := by omega
    have hw : IntKind.i64.wrap (k : Int) = (k : Int) := IntWalk.i64_in _ (by omega)
    have h0i : (0 : Int) < (l.length : Int) := by omega
    have hkl : (k : Int) < (l.length : Int) := by omega
    rw [hA] at c14
    generalize l[k] = x at *
    clear hk
    go_enter Tryz.func91, Tryz.ntmps91
    go_wp2
    go_ret
    exact ⟨by rw [HV.out]; rfl, rfl⟩
set_option maxRecDepth 100000 in
set_option maxHeartbeats 4000000 in
theorem lastEvent_any (s : Se) (m : Me) (B base bx : Nat) (a : Ia) (st : In) (w : World) (h : Isp s m B base bx a st w) :
    Calls Tryz.prog 94 #[.pointer (some ⟨bx, 0, none⟩)] w fun e w' => e = .returned (.int .i64 (lastE st.ev)) ∧ w' = w := by
  obtain ⟨c0, c1, c2, c3, c4, c5, c6, c7, c8, c9, c10, c11, c12, c13, c14, c15, c16, cf⟩ := blk17 h.blk
  have hR := own_row_ h.ev
  have lb := h.blk.lt
  have hn : st.ev.length ≤ 1000 := Nat.le_trans h.lim.ev (by decide)
  clear h
  have HE : Hid (lastE st.ev = (st.ev.getLast?.map (·.mi)).getD 0) := Lib.hid rfl
  generalize st.ev = l at *
  rcases Nat.eq_zero_or_pos l.length with h0 | h0
  · have hl : l = [] := List.eq_nil_of_length_eq_zero h0
    subst hl
    go_enter Tryz.func94, Tryz.ntmps94
    go_wp2
    go_ret
    exact ⟨rfl, rfl⟩
  · obtain ⟨k, hk⟩ : ∃ k, l.length = k + 1 := ⟨l.length - 1, by omega⟩
    have hlt : k < l.length := by omega
    obtain ⟨g, o, hA, hg, d0⟩ := evRow3 hR hlt
    have HV : Hid (lastE l = l[k].mi) := Lib.hid (by
      rw [HE.out, List.getLast?_eq_getElem?, hk, Nat.add_sub_cancel, List.getElem?_eq_getElem hlt]; rfl)
    have hki : ((l.length : Nat) : Int) - 1 = (k : Int) := by omega
    have hw : IntKind.i64.wrap (k : Int) = (k : Int) := IntWalk.i64_in _ (by omega)
    have h0i : (0 : Int) < (l.length : Int) := by omega
    have hkl : (k : Int) < (l.length : Int) := by omega
    rw [hA] at c13
    generalize l[k] = x at *
    clear hk
    go_enter Tryz.func94, Tryz.ntmps94
    go_wp2
    go_ret
    exact ⟨by rw [HV.out]; rfl, rfl⟩
set_option maxRecDepth 100000 in
set_option maxHeartbeats 4000000 in
theorem readings_any (s : Se) (m : Me) (B base bx : Nat) (a : Ia) (st : In) (w : World) (h : Isp s m B base bx a st w) :
    Calls Tryz.prog 42 #[.pointer (some ⟨bx, 0, none⟩)] w fun e w' => ∃ v, e = .returned v ∧ w'.ownsRow w.heap.size 3 1 v (readsL st.sc).length (intsC (readsL st.sc)) ∧ Below w.heap.size w w' := by
  obtain ⟨i0, hi, hz0, hz1, hz2⟩ := info_parts infoI
  obtain ⟨c0, c1, c2, c3, c4, c5, c6, c7, c8, c9, c10, c11, c12, c13, c14, c15, c16, cf⟩ := blk17 h.blk
  have HR := Lib.hid (own_row_ h.sc)
  have lb := h.blk.lt
  have hn : st.sc.length ≤ 200 := h.lim.sc
  clear h
  go_enter Tryz.func42, Tryz.ntmps42
  go_wp2
  clear c0 c1 c2 c3 c4 c5 c6 c7 c8 c9 c10 c11 c12 c13 c14 c15 c16 cf lb
  go_loopw [3, 12] (fun v i wr => ∃ k : Nat, k ≤ st.sc.length ∧ i = .int .i64 k ∧ Hid (wr.ownsRow w.heap.size 3 1 v (readsL (st.sc.take k)).length (intsC (readsL (st.sc.take k)))) ∧ Below w.heap.size w wr) (fun _ i _ => st.sc.length - (intOf i).toNat)
  case atStart => exact ⟨0, Nat.zero_le _, rfl, Lib.hid (World.ownsRow_nil _ _ _ _), Below.refl _ _⟩
  case round =>
    obtain ⟨k, hk, rfl, HO, hBr⟩ := hrel
    by_cases hlt : k < st.sc.length
    · obtain ⟨g, o, hA, hg, c0, c1, c2⟩ := scRow3 (HR.out.below hBr (Nat.le_refl _)) hlt
      have HSN := Lib.hid (readsL_snoc st.sc hlt)
      have hsz := Below.size hBr
      obtain ⟨x, hx⟩ : ∃ x, st.sc[k] = x := ⟨_, rfl⟩
      rw [hx] at c0 c1 c2 HSN
      clear hx
      obtain ⟨xm, xp, xv⟩ := x
      dsimp only at c0 c1 c2
      rw [hA]
      have hki : (k : Int) < (st.sc.length : Int) := by omega
      have hB1 : Below w.heap.size w (wr.alloc (.cells #[.int .i64 xm, .int .i64 xp, .bool xv] 140)) := hBr.alloc (Below.size hBr) _
      have hB2 := hB1.alloc (Below.size hB1) (.cells #[.int .i64 xp] 3 (0, 0))
      cases xv
      · have ow := (HO.out.alloc (.cells #[.int .i64 xm, .int .i64 xp, .bool false] 140 (0, 0))).alloc (.cells #[.int .i64 xp] 3 (0, 0))
        have bn := Blk.new' (wr.alloc (.cells #[.int .i64 xm, .int .i64 xp, .bool false] 140)) 3 #[.int .i64 xp] (g := wr.heap.size + 1) (by simp)
        have HSR : Hid (Src ((wr.alloc (.cells #[.int .i64 xm, .int .i64 xp, .bool false] 140)).alloc (.cells #[.int .i64 xp] 3)) 1 (some ⟨wr.heap.size + 1, 0, none⟩) 1 1 [.int .i64 xp]) := Lib.hid (Src.mk (B := wr.heap.size + 2) ⟨rfl, fun _ => ⟨wr.heap.size + 1, 0, rfl, by omega, fun j u hu => by rw [Nat.zero_add, bn.cell j, List.getElem?_toArray]; exact hu⟩⟩ (fun e => by cases e))
        have hlen := Nat.le_trans (readsL_len (st.sc.take k)) (by rw [List.length_take]; exact Nat.min_le_left _ _)
        clear bn
        go_wp2_with (at_builtin; refine wpList_append_row rfl _ _ 107 rfl w.heap.size 3 i0 (.int .i64 0) 1 8 Tryz.underlying107 hi hz0 hz1 hz2 rfl (by decide) _ _ _ rfl ow (some ⟨wr.heap.size + 1, 0, none⟩) 1 1 [.int .i64 xp] rfl HSR.out (by simp [Value.oneCell']) (by unfold maxLen; omega) (by omega) (by simp; omega) ?_)
        intro v3 w3 own3 hgrow _
        have hB3 : Below w.heap.size w w3 := below_own hB2 (Nat.le_refl _) ow hgrow
        have HO3 : Hid (w3.ownsRow w.heap.size 3 1 v3 (readsL (st.sc.take (k + 1))).length (intsC (readsL (st.sc.take (k + 1))))) := Lib.hid (by
          rw [HSN.out]
          unfold intsC
          rw [List.length_append, List.map_append]
          exact own3)
        go_wp2
        refine ⟨⟨k + 1, by omega, by go_num, HO3, hB3⟩, by simp [intOf]; omega⟩
      · have HO3 : Hid ((wr.alloc (.cells #[.int .i64 xm, .int .i64 xp, .bool true] 140)).ownsRow w.heap.size 3 1 u3 (readsL (st.sc.take (k + 1))).length (intsC (readsL (st.sc.take (k + 1))))) := Lib.hid (by
          rw [HSN.out]
          simpa using HO.out.alloc (.cells #[.int .i64 xm, .int .i64 xp, .bool true] 140 (0, 0)))
        go_wp2
        refine ⟨⟨k + 1, by omega, by go_num, HO3, hB1⟩, by simp [intOf]; omega⟩
    · obtain rfl : k = st.sc.length := by omega
      have HX : Hid (wr.ownsRow w.heap.size 3 1 u3 (readsL st.sc).length (intsC (readsL st.sc))) := Lib.hid (by have := HO.out; rwa [List.take_length] at this)
      have hki : ¬ ((st.sc.length : Int) < (st.sc.length : Int)) := by omega
      go_wp2
      go_ret
      exact ⟨_, rfl, HX.out, hBr⟩
set_option maxRecDepth 100000 in
set_option maxHeartbeats 4000000 in
theorem insAnew_any (s : Se) (m : Me) (B base bx : Nat) (a : Ia) (st : In) (w : World) (h : Isp s m B base bx a st w) :
    Calls Tryz.prog 23 #[.pointer (some ⟨bx, 0, none⟩)] w fun e w' => ∃ v, e = .returned v ∧ w'.ownsRow w.heap.size 68 2 v (anewR s.tk (readsL st.sc)).length (rngsC (anewR s.tk (readsL st.sc))) ∧ Below w.heap.size w w' := by
  obtain ⟨c0, c1, c2, c3, c4, c5, c6, c7, c8, c9, c10, c11, c12, c13, c14, c15, c16, cf⟩ := blk17 h.blk
  have lb := h.blk.lt
  have HI := Lib.hid h; clear h
  have HRD : Hid (∀ W, Below w.heap.size w W → Calls Tryz.prog 42 #[.pointer (some ⟨bx, 0, none⟩)] W fun e w' => ∃ v, e = .returned v ∧ w'.ownsRow W.heap.size 3 1 v (readsL st.sc).length (intsC (readsL st.sc)) ∧ Below W.heap.size W w') := Lib.hid fun W hW => readings_any s m B base bx a st W (HI.out.below hW (Nat.le_refl _))
  have HAN : Hid (∀ W A c, InOk (readsL st.sc) A c W.heap.size W → Calls Tryz.prog 41 #[.agg (tkC s.tk), .slice A (readsL st.sc).length c] W fun e w' => ∃ v, e = .returned (.tuple #[v, .int .i64 (openE s.tk (readsL st.sc))]) ∧ w'.ownsRow W.heap.size 68 2 v (anewR s.tk (readsL st.sc)).length (rngsC (anewR s.tk (readsL st.sc))) ∧ Below W.heap.size W w') := Lib.hid fun W A c h => anew_any s.tk _ A c _ W h
  have HOK : Hid (∀ W A c, Row W W.heap.size 1 A (readsL st.sc).length (intsC (readsL st.sc)) → InOk (readsL st.sc) A c W.heap.size W) := Lib.hid fun W A c h => ⟨Nat.le_trans (readsL_len _) (Nat.le_trans HI.out.lim.sc (by decide)), fun p hp => (by
    unfold readsL at hp
    obtain ⟨x, hx, rfl⟩ := List.mem_map.1 hp
    have := HI.out.lim.pos x ((List.mem_filter.1 hx).1)
    unfold I64
    omega), h, Nat.le_refl _⟩
  clear HI
  unfold tkC at HAN
  go_enter Tryz.func23, Tryz.ntmps23
  go_wp2_with fail
  refine wp_region_w (Gr _) (by kernel_rfl) (Below.refl _ _).drew ?_
  refine wpW_det (t' := ?ct0R4) 0 (by rfl) (by kernel_rfl) (NQ_free _) (by kernel_rfl) ?cw0R4 ?ch0R4 ?ca0R4 (Eq.refl _) ?cH0R4
  case cw0R4 => (go_simp; done)
  case ch0R4 =>
    intro ds w' hS K hK
    have hc := (bcell hS).1
    have hf := (bcell hS).2
    have hz := hS.size
    try simp at hz
    go_simp
    try go_bits
    first
      | exact hK _ hS (Gr.refl _)
      | exact hK _ (by repeat (first | (with_reducible exact Below.refl _ _) | (with_reducible assumption) | ((with_reducible refine Below.setCell ?_ ?_ _); rotate_left; · (first | exact Nat.le_refl _ | (simp; done) | (simp; omega) | omega)) | ((with_reducible refine Below.alloc ?_ ?_ _); rotate_left; · (first | exact Nat.le_refl _ | (simp; done) | (simp; omega) | omega)) | (with_reducible apply Below.drew) | (with_reducible apply below_drewN') | (refine Below.trans ?_ (Below.mono (by assumption) (by first | exact Nat.le_refl _ | (simp; done) | (simp; omega) | omega))) | exact Below.refl _ _ | assumption)) (by repeat (first | (with_reducible exact Below.refl _ _) | (with_reducible assumption) | ((with_reducible refine Below.setCell ?_ ?_ _); rotate_left; · (first | exact Nat.le_refl _ | (simp; done) | (simp; omega) | omega)) | ((with_reducible refine Below.alloc ?_ ?_ _); rotate_left; · (first | exact Nat.le_refl _ | (simp; done) | (simp; omega) | omega)) | (with_reducible apply Below.drew) | (with_reducible apply below_drewN') | (refine Below.trans ?_ (Below.mono (by assumption) (by first | exact Nat.le_refl _ | (simp; done) | (simp; omega) | omega))) | exact Below.refl _ _ | assumption))
  case ca0R4 => (first | (simp [Act.put]; done) | (simp [Act.put, *]; done))
  try dsimp only
  refine wpW_det (t' := ?ct1R4) 1 (by rfl) (by kernel_rfl) (NQ_free _) (by kernel_rfl) ?cw1R4 ?ch1R4 ?ca1R4 (Eq.refl _) ?cH1R4
  case cw1R4 => (go_simp; done)
  case ch1R4 =>
    intro ds w' hS K hK
    have hc := (bcell hS).1
    have hf := (bcell hS).2
    have hz := hS.size
    try simp at hz
    go_simp
    try go_bits
    first
      | exact hK _ hS (Gr.refl _)
      | exact hK _ (by repeat (first | (with_reducible exact Below.refl _ _) | (with_reducible assumption) | ((with_reducible refine Below.setCell ?_ ?_ _); rotate_left; · (first | exact Nat.le_refl _ | (simp; done) | (simp; omega) | omega)) | ((with_reducible refine Below.alloc ?_ ?_ _); rotate_left; · (first | exact Nat.le_refl _ | (simp; done) | (simp; omega) | omega)) | (with_reducible apply Below.drew) | (with_reducible apply below_drewN') | (refine Below.trans ?_ (Below.mono (by assumption) (by first | exact Nat.le_refl _ | (simp; done) | (simp; omega) | omega))) | exact Below.refl _ _ | assumption)) (by repeat (first | (with_reducible exact Below.refl _ _) | (with_reducible assumption) | ((with_reducible refine Below.setCell ?_ ?_ _); rotate_left; · (first | exact Nat.le_refl _ | (simp; done) | (simp; omega) | omega)) | ((with_reducible refine Below.alloc ?_ ?_ _); rotate_left; · (first | exact Nat.le_refl _ | (simp; done) | (simp; omega) | omega)) | (with_reducible apply Below.drew) | (with_reducible apply below_drewN') | (refine Below.trans ?_ (Below.mono (by assumption) (by first | exact Nat.le_refl _ | (simp; done) | (simp; omega) | omega))) | exact Below.refl _ _ | assumption))
  case ca1R4 => (first | (simp [Act.put]; done) | (simp [Act.put, *]; done))
  try dsimp only
  refine wpW_det (t' := ?ct2R4) 2 (by rfl) (by kernel_rfl) (NQ_free _) (by kernel_rfl) ?cw2R4 ?ch2R4 ?ca2R4 (Eq.refl _) ?cH2R4
  case cw2R4 => (go_simp; done)
  case ch2R4 =>
    intro ds w' hS K hK
    have hc := (bcell hS).1
    have hf := (bcell hS).2
    have hz := hS.size
    try simp at hz
    go_simp
    try go_bits
    first
      | exact hK _ hS (Gr.refl _)
      | exact hK _ (by repeat (first | (with_reducible exact Below.refl _ _) | (with_reducible assumption) | ((with_reducible refine Below.setCell ?_ ?_ _); rotate_left; · (first | exact Nat.le_refl _ | (simp; done) | (simp; omega) | omega)) | ((with_reducible refine Below.alloc ?_ ?_ _); rotate_left; · (first | exact Nat.le_refl _ | (simp; done) | (simp; omega) | omega)) | (with_reducible apply Below.drew) | (with_reducible apply below_drewN') | (refine Below.trans ?_ (Below.mono (by assumption) (by first | exact Nat.le_refl _ | (simp; done) | (simp; omega) | omega))) | exact Below.refl _ _ | assumption)) (by repeat (first | (with_reducible exact Below.refl _ _) | (with_reducible assumption) | ((with_reducible refine Below.setCell ?_ ?_ _); rotate_left; · (first | exact Nat.le_refl _ | (simp; done) | (simp; omega) | omega)) | ((with_reducible refine Below.alloc ?_ ?_ _); rotate_left; · (first | exact Nat.le_refl _ | (simp; done) | (simp; omega) | omega)) | (with_reducible apply Below.drew) | (with_reducible apply below_drewN') | (refine Below.trans ?_ (Below.mono (by assumption) (by first | exact Nat.le_refl _ | (simp; done) | (simp; omega) | omega))) | exact Below.refl _ _ | assumption))
  case ca2R4 => (first | (simp [Act.put]; done) | (simp [Act.put, *]; done))
  try dsimp only
  refine wpW_det (t' := ?ct3R4) 3 (by rfl) (by kernel_rfl) (NQ_free _) (by kernel_rfl) ?cw3R4 ?ch3R4 ?ca3R4 (Eq.refl _) ?cH3R4
  case cw3R4 => (go_simp; done)
  case ch3R4 =>
    intro ds w' hS K hK
    have hc := (bcell hS).1
    have hf := (bcell hS).2
    have hz := hS.size
    try simp at hz
    go_simp
    try go_bits
    first
      | exact hK _ hS (Gr.refl _)
      | exact hK _ (by repeat (first | (with_reducible exact Below.refl _ _) | (with_reducible assumption) | ((with_reducible refine Below.setCell ?_ ?_ _); rotate_left; · (first | exact Nat.le_refl _ | (simp; done) | (simp; omega) | omega)) | ((with_reducible refine Below.alloc ?_ ?_ _); rotate_left; · (first | exact Nat.le_refl _ | (simp; done) | (simp; omega) | omega)) | (with_reducible apply Below.drew) | (with_reducible apply below_drewN') | (refine Below.trans ?_ (Below.mono (by assumption) (by first | exact Nat.le_refl _ | (simp; done) | (simp; omega) | omega))) | exact Below.refl _ _ | assumption)) (by repeat (first | (with_reducible exact Below.refl _ _) | (with_reducible assumption) | ((with_reducible refine Below.setCell ?_ ?_ _); rotate_left; · (first | exact Nat.le_refl _ | (simp; done) | (simp; omega) | omega)) | ((with_reducible refine Below.alloc ?_ ?_ _); rotate_left; · (first | exact Nat.le_refl _ | (simp; done) | (simp; omega) | omega)) | (with_reducible apply Below.drew) | (with_reducible apply below_drewN') | (refine Below.trans ?_ (Below.mono (by assumption) (by first | exact Nat.le_refl _ | (simp; done) | (simp; omega) | omega))) | exact Below.refl _ _ | assumption))
  case ca3R4 => (first | (simp [Act.put]; done) | (simp [Act.put, *]; done))
  try dsimp only
  refine wpW_det (t' := ?ct4R4) 4 (by rfl) (by kernel_rfl) (NQ_free _) (by kernel_rfl) ?cw4R4 ?ch4R4 ?ca4R4 (Eq.refl _) ?cH4R4
  case cw4R4 => (go_simp; done)
  case ch4R4 =>
    intro ds w' hS K hK
    have hc := (bcell hS).1
    have hf := (bcell hS).2
    have hz := hS.size
    try simp at hz
    go_simp
    try go_bits
    first
      | exact hK _ hS (Gr.refl _)
      | exact hK _ (by repeat (first | (with_reducible exact Below.refl _ _) | (with_reducible assumption) | ((with_reducible refine Below.setCell ?_ ?_ _); rotate_left; · (first | exact Nat.le_refl _ | (simp; done) | (simp; omega) | omega)) | ((with_reducible refine Below.alloc ?_ ?_ _); rotate_left; · (first | exact Nat.le_refl _ | (simp; done) | (simp; omega) | omega)) | (with_reducible apply Below.drew) | (with_reducible apply below_drewN') | (refine Below.trans ?_ (Below.mono (by assumption) (by first | exact Nat.le_refl _ | (simp; done) | (simp; omega) | omega))) | exact Below.refl _ _ | assumption)) (by repeat (first | (with_reducible exact Below.refl _ _) | (with_reducible assumption) | ((with_reducible refine Below.setCell ?_ ?_ _); rotate_left; · (first | exact Nat.le_refl _ | (simp; done) | (simp; omega) | omega)) | ((with_reducible refine Below.alloc ?_ ?_ _); rotate_left; · (first | exact Nat.le_refl _ | (simp; done) | (simp; omega) | omega)) | (with_reducible apply Below.drew) | (with_reducible apply below_drewN') | (refine Below.trans ?_ (Below.mono (by assumption) (by first | exact Nat.le_refl _ | (simp; done) | (simp; omega) | omega))) | exact Below.refl _ _ | assumption))
  case ca4R4 => (first | (simp [Act.put]; done) | (simp [Act.put, *]; done))
  try dsimp only
  refine wpW_det (t' := ?ct5R4) 5 (by rfl) (by kernel_rfl) (NQ_free _) (by kernel_rfl) ?cw5R4 ?ch5R4 ?ca5R4 (Eq.refl _) ?cH5R4
  case cw5R4 => (go_simp; done)
  case ch5R4 =>
    intro ds w' hS K hK
    have hc := (bcell hS).1
    have hf := (bcell hS).2
    have hz := hS.size
    try simp at hz
    go_simp
    try go_bits
    first
      | exact hK _ hS (Gr.refl _)
      | exact hK _ (by repeat (first | (with_reducible exact Below.refl _ _) | (with_reducible assumption) | ((with_reducible refine Below.setCell ?_ ?_ _); rotate_left; · (first | exact Nat.le_refl _ | (simp; done) | (simp; omega) | omega)) | ((with_reducible refine Below.alloc ?_ ?_ _); rotate_left; · (first | exact Nat.le_refl _ | (simp; done) | (simp; omega) | omega)) | (with_reducible apply Below.drew) | (with_reducible apply below_drewN') | (refine Below.trans ?_ (Below.mono (by assumption) (by first | exact Nat.le_refl _ | (simp; done) | (simp; omega) | omega))) | exact Below.refl _ _ | assumption)) (by repeat (first | (with_reducible exact Below.refl _ _) | (with_reducible assumption) | ((with_reducible refine Below.setCell ?_ ?_ _); rotate_left; · (first | exact Nat.le_refl _ | (simp; done) | (simp; omega) | omega)) | ((with_reducible refine Below.alloc ?_ ?_ _); rotate_left; · (first | exact Nat.le_refl _ | (simp; done) | (simp; omega) | omega)) | (with_reducible apply Below.drew) | (with_reducible apply below_drewN') | (refine Below.trans ?_ (Below.mono (by assumption) (by first | exact Nat.le_refl _ | (simp; done) | (simp; omega) | omega))) | exact Below.refl _ _ | assumption))
  case ca5R4 => (first | (simp [Act.put]; done) | (simp [Act.put, *]; done))
  try dsimp only
  clear c0 c1 c2 c3 c4 c5 c6 c7 c8 c9 c10 c11 c12 c13 c14 c15 c16 cf lb
  refine wpW_branch [6] (by kernel_rfl) (by simp) ?_
  intro w1 hg1 hS1
  refine each_cons ?_ (each_nil)
  refine wpOp_go (by rfl) (Eq.refl _) (by go_simp; done) ?_
  intro K hK
  go_simp
  try simp only [Act.put]
  refine (HRD.out _ hS1).mono ?_
  rintro e wq ⟨v, rfl, hv, hBq⟩
  obtain ⟨A', c', e1, _, _, _⟩ := Row.ownd hv
  subst e1
  replace hv := hv.mono (base' := w.heap.size) (Below.size hS1)
  refine hK _ _ (Below.trans hS1 (hBq.mono (Below.size hS1))) ?_
  clear hK K hBq
  refine wpW_branch [7] (by kernel_rfl) (by simp) ?_
  intro w2 hg2 hS2
  replace hv := own_below hv hg2
  refine each_cons ?_ (each_nil)
  refine wpOp_go (by rfl) (Eq.refl _) (by go_simp; done) ?_
  intro K hK
  go_simp
  try simp only [Act.put]
  refine (HAN.out _ _ _ (HOK.out _ _ _ (own_row_ hv))).mono ?_
  rintro e wr ⟨v2, rfl, hv2, hBr⟩
  replace hv2 := hv2.mono (base' := w.heap.size) (Below.size hS2)
  refine hK _ _ (Below.trans hS2 (hBr.mono (Below.size hS2))) ?_
  clear hK K hBr hv
  refine wpW_det (t' := ?ct8R5) 8 (by rfl) (by kernel_rfl) (NQ_free _) (by kernel_rfl) ?cw8R5 ?ch8R5 ?ca8R5 (Eq.refl _) ?cH8R5
  case cw8R5 => (go_simp; done)
  case ch8R5 =>
    intro ds w' hS K hK
    have hc := (bcell hS).1
    have hf := (bcell hS).2
    have hz := hS.size
    try simp at hz
    go_simp
    try go_bits
    first
      | exact hK _ hS (Gr.refl _)
      | exact hK _ (by repeat (first | (with_reducible exact Below.refl _ _) | (with_reducible assumption) | ((with_reducible refine Below.setCell ?_ ?_ _); rotate_left; · (first | exact Nat.le_refl _ | (simp; done) | (simp; omega) | omega)) | ((with_reducible refine Below.alloc ?_ ?_ _); rotate_left; · (first | exact Nat.le_refl _ | (simp; done) | (simp; omega) | omega)) | (with_reducible apply Below.drew) | (with_reducible apply below_drewN') | (refine Below.trans ?_ (Below.mono (by assumption) (by first | exact Nat.le_refl _ | (simp; done) | (simp; omega) | omega))) | exact Below.refl _ _ | assumption)) (by repeat (first | (with_reducible exact Below.refl _ _) | (with_reducible assumption) | ((with_reducible refine Below.setCell ?_ ?_ _); rotate_left; · (first | exact Nat.le_refl _ | (simp; done) | (simp; omega) | omega)) | ((with_reducible refine Below.alloc ?_ ?_ _); rotate_left; · (first | exact Nat.le_refl _ | (simp; done) | (simp; omega) | omega)) | (with_reducible apply Below.drew) | (with_reducible apply below_drewN') | (refine Below.trans ?_ (Below.mono (by assumption) (by first | exact Nat.le_refl _ | (simp; done) | (simp; omega) | omega))) | exact Below.refl _ _ | assumption))
  case ca8R5 => (first | (simp [Act.put]; done) | (simp [Act.put, *]; done))
  try dsimp only
  refine wpW_det (t' := ?ct9R5) 9 (by rfl) (by kernel_rfl) (NQ_free _) (by kernel_rfl) ?cw9R5 ?ch9R5 ?ca9R5 (Eq.refl _) ?cH9R5
  case cw9R5 => (go_simp; done)
  case ch9R5 =>
    intro ds w' hS K hK
    have hc := (bcell hS).1
    have hf := (bcell hS).2
    have hz := hS.size
    try simp at hz
    go_simp
    try go_bits
    first
      | exact hK _ hS (Gr.refl _)
      | exact hK _ (by repeat (first | (with_reducible exact Below.refl _ _) | (with_reducible assumption) | ((with_reducible refine Below.setCell ?_ ?_ _); rotate_left; · (first | exact Nat.le_refl _ | (simp; done) | (simp; omega) | omega)) | ((with_reducible refine Below.alloc ?_ ?_ _); rotate_left; · (first | exact Nat.le_refl _ | (simp; done) | (simp; omega) | omega)) | (with_reducible apply Below.drew) | (with_reducible apply below_drewN') | (refine Below.trans ?_ (Below.mono (by assumption) (by first | exact Nat.le_refl _ | (simp; done) | (simp; omega) | omega))) | exact Below.refl _ _ | assumption)) (by repeat (first | (with_reducible exact Below.refl _ _) | (with_reducible assumption) | ((with_reducible refine Below.setCell ?_ ?_ _); rotate_left; · (first | exact Nat.le_refl _ | (simp; done) | (simp; omega) | omega)) | ((with_reducible refine Below.alloc ?_ ?_ _); rotate_left; · (first | exact Nat.le_refl _ | (simp; done) | (simp; omega) | omega)) | (with_reducible apply Below.drew) | (with_reducible apply below_drewN') | (refine Below.trans ?_ (Below.mono (by assumption) (by first | exact Nat.le_refl _ | (simp; done) | (simp; omega) | omega))) | exact Below.refl _ _ | assumption))
  case ca9R5 => (first | (simp [Act.put]; done) | (simp [Act.put, *]; done))
  try dsimp only
  refine wpW_det (t' := ?ct10R5) 10 (by rfl) (by kernel_rfl) (NQ_free _) (by kernel_rfl) ?cw10R5 ?ch10R5 ?ca10R5 (Eq.refl _) ?cH10R5
  case cw10R5 => (go_simp; done)
  case ch10R5 =>
    intro ds w' hS K hK
    have hc := (bcell hS).1
    have hf := (bcell hS).2
    have hz := hS.size
    try simp at hz
    go_simp
    try go_bits
    first
      | exact hK _ hS (Gr.refl _)
      | exact hK _ (by repeat (first | (with_reducible exact Below.refl _ _) | (with_reducible assumption) | ((with_reducible refine Below.setCell ?_ ?_ _); rotate_left; · (first | exact Nat.le_refl _ | (simp; done) | (simp; omega) | omega)) | ((with_reducible refine Below.alloc ?_ ?_ _); rotate_left; · (first | exact Nat.le_refl _ | (simp; done) | (simp; omega) | omega)) | (with_reducible apply Below.drew) | (with_reducible apply below_drewN') | (refine Below.trans ?_ (Below.mono (by assumption) (by first | exact Nat.le_refl _ | (simp; done) | (simp; omega) | omega))) | exact Below.refl _ _ | assumption)) (by repeat (first | (with_reducible exact Below.refl _ _) | (with_reducible assumption) | ((with_reducible refine Below.setCell ?_ ?_ _); rotate_left; · (first | exact Nat.le_refl _ | (simp; done) | (simp; omega) | omega)) | ((with_reducible refine Below.alloc ?_ ?_ _); rotate_left; · (first | exact Nat.le_refl _ | (simp; done) | (simp; omega) | omega)) | (with_reducible apply Below.drew) | (with_reducible apply below_drewN') | (refine Below.trans ?_ (Below.mono (by assumption) (by first | exact Nat.le_refl _ | (simp; done) | (simp; omega) | omega))) | exact Below.refl _ _ | assumption))
  case ca10R5 => (first | (simp [Act.put]; done) | (simp [Act.put, *]; done))
  try dsimp only
  refine wpW_det (t' := ?ct11R5) 11 (by rfl) (by kernel_rfl) (NQ_free _) (by kernel_rfl) ?cw11R5 ?ch11R5 ?ca11R5 (Eq.refl _) ?cH11R5
  case cw11R5 => (go_simp; done)
  case ch11R5 =>
    intro ds w' hS K hK
    have hc := (bcell hS).1
    have hf := (bcell hS).2
    have hz := hS.size
    try simp at hz
    go_simp
    try go_bits
    first
      | exact hK _ hS (Gr.refl _)
      | exact hK _ (by repeat (first | (with_reducible exact Below.refl _ _) | (with_reducible assumption) | ((with_reducible refine Below.setCell ?_ ?_ _); rotate_left; · (first | exact Nat.le_refl _ | (simp; done) | (simp; omega) | omega)) | ((with_reducible refine Below.alloc ?_ ?_ _); rotate_left; · (first | exact Nat.le_refl _ | (simp; done) | (simp; omega) | omega)) | (with_reducible apply Below.drew) | (with_reducible apply below_drewN') | (refine Below.trans ?_ (Below.mono (by assumption) (by first | exact Nat.le_refl _ | (simp; done) | (simp; omega) | omega))) | exact Below.refl _ _ | assumption)) (by repeat (first | (with_reducible exact Below.refl _ _) | (with_reducible assumption) | ((with_reducible refine Below.setCell ?_ ?_ _); rotate_left; · (first | exact Nat.le_refl _ | (simp; done) | (simp; omega) | omega)) | ((with_reducible refine Below.alloc ?_ ?_ _); rotate_left; · (first | exact Nat.le_refl _ | (simp; done) | (simp; omega) | omega)) | (with_reducible apply Below.drew) | (with_reducible apply below_drewN') | (refine Below.trans ?_ (Below.mono (by assumption) (by first | exact Nat.le_refl _ | (simp; done) | (simp; omega) | omega))) | exact Below.refl _ _ | assumption))
  case ca11R5 => (first | (simp [Act.put]; done) | (simp [Act.put, *]; done))
  try dsimp only
  refine wpW_det (t' := ?ct12R5) 12 (by rfl) (by kernel_rfl) (NQ_free _) (by kernel_rfl) ?cw12R5 ?ch12R5 ?ca12R5 (Eq.refl _) ?cH12R5
  case cw12R5 => (go_simp; done)
  case ch12R5 =>
    intro ds w' hS K hK
    have hc := (bcell hS).1
    have hf := (bcell hS).2
    have hz := hS.size
    try simp at hz
    go_simp
    try go_bits
    first
      | exact hK _ hS (Gr.refl _)
      | exact hK _ (by repeat (first | (with_reducible exact Below.refl _ _) | (with_reducible assumption) | ((with_reducible refine Below.setCell ?_ ?_ _); rotate_left; · (first | exact Nat.le_refl _ | (simp; done) | (simp; omega) | omega)) | ((with_reducible refine Below.alloc ?_ ?_ _); rotate_left; · (first | exact Nat.le_refl _ | (simp; done) | (simp; omega) | omega)) | (with_reducible apply Below.drew) | (with_reducible apply below_drewN') | (refine Below.trans ?_ (Below.mono (by assumption) (by first | exact Nat.le_refl _ | (simp; done) | (simp; omega) | omega))) | exact Below.refl _ _ | assumption)) (by repeat (first | (with_reducible exact Below.refl _ _) | (with_reducible assumption) | ((with_reducible refine Below.setCell ?_ ?_ _); rotate_left; · (first | exact Nat.le_refl _ | (simp; done) | (simp; omega) | omega)) | ((with_reducible refine Below.alloc ?_ ?_ _); rotate_left; · (first | exact Nat.le_refl _ | (simp; done) | (simp; omega) | omega)) | (with_reducible apply Below.drew) | (with_reducible apply below_drewN') | (refine Below.trans ?_ (Below.mono (by assumption) (by first | exact Nat.le_refl _ | (simp; done) | (simp; omega) | omega))) | exact Below.refl _ _ | assumption))
  case ca12R5 => (first | (simp [Act.put]; done) | (simp [Act.put, *]; done))
  try dsimp only
  refine wpW_end (by kernel_rfl) ?_
  intro we hg hS
  unfold NQ
  dsimp only
  replace hv2 := own_below hv2 hg
  go_wp2
  go_ret
  exact ⟨_, rfl, hv2, hS⟩
end Go.Proofs.YtmdbpkomanhpoaaGreatDoor
