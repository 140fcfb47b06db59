/- Contract of the reference's mark. Contract of the reference's head (a joint's first line). -/
import Derived.Test.YtaekcfancfoccaaGreatDoorZmCuC
import Derived.Test.YtaekcfancfoccaaGreatDoorZmZkCvZ
namespace Go.Proofs.YtaekcfancfoccaaGreatDoor
open Go.RowKit Go.Lib

def colW (ws : List (ByteArray × Int)) (k : Nat) : Int :=
  if h : k < ws.length then ws[k].2 else match ws.getLast? with | some p => p.2 + p.1.size | none => 0
theorem colW_in {ws : List (ByteArray × Int)} {k : Nat} (h : k < ws.length) : colW ws k = ws[k].2 := by unfold colW; rw [dif_pos h]
theorem colW_out {ws : List (ByteArray × Int)} {k m : Nat} (h : ¬ k < ws.length) (hm : m < ws.length) (e : ws.length = m + 1) : colW ws k = ws[m].2 + ws[m].1.size := by
  unfold colW; rw [dif_neg h, List.getLast?_eq_getElem?, e, Nat.add_sub_cancel, List.getElem?_eq_getElem hm]
set_option maxRecDepth 100000 in
set_option maxHeartbeats 2000000 in
theorem rMark_any (line : Int) (ws : List (ByteArray × Int)) (k : Nat) (A : Option Addr) (c B : Nat) (w : World) (hk : k ≤ 1000000) (hn : ws.length ≤ 1000000) (h0 : 0 < ws.length) (hs : ∀ p ∈ ws, p.1.size ≤ 1000000 ∧ 0 ≤ p.2 ∧ p.2 ≤ 1000001) (hR : Row w B 2 A ws.length (wsC ws)) (hB : B ≤ w.heap.size) :
    Calls Tryz.prog 48 #[.int .i64 line, .slice A ws.length c, .int .i64 k] w fun e w' => e = .returned (.agg #[.int .i64 line, .int .i64 (colW ws k)]) ∧ Below w.heap.size w w' := by
  by_cases hlt : k < ws.length
  · obtain ⟨g, o, rfl, hg, c0, c1⟩ := wsCells hR hlt
    have HC := Lib.hid (colW_in hlt)
    have hgw : g < w.heap.size := by omega
    clear hs hR
    generalize ws[k].2 = col at *
    go_enter Tryz.func48, Tryz.ntmps48
    go_wp2
    exact bodyPost_ret (v := .agg #[.int .i64 line, .int .i64 col]) (by simp [results, Tryz.results48, go_sem]) rfl ⟨by rw [HC.out], (by repeat first | (with_reducible first | exact Below.refl _ _ | assumption) | ((with_reducible first | refine Below.setCell ?_ ?_ _ | refine Below.alloc ?_ ?_ _); rotate_left; · first | exact Nat.le_refl _ | (simp; done) | (simp; omega) | omega) | (with_reducible first | apply Below.drew | apply below_drewN') | refine Below.trans ?_ (Below.mono (by assumption) (by first | exact Nat.le_refl _ | (simp; done) | (simp; omega) | omega)) | exact Below.refl _ _ | assumption)⟩
  · obtain ⟨m, hm⟩ : ∃ m, ws.length = m + 1 := ⟨ws.length - 1, by omega⟩
    have hml : m < ws.length := by omega
    obtain ⟨g, o, rfl, hg, c0, c1⟩ := wsCells hR hml
    have HC := Lib.hid (colW_out hlt hml hm)
    obtain ⟨hs1, hs2, hs3⟩ := hs _ (List.getElem_mem hml)
    have hgw : g < w.heap.size := by omega
    clear hs hR
    generalize ws[m] = p at *
    obtain ⟨t, col⟩ := p
    rw [hm] at hlt ⊢
    clear hml hm hn h0
    have hm2 : m + 1 ≤ 1000000 := by omega
    simp only at hs1 hs2 hs3 c0 c1
    go_enter Tryz.func48, Tryz.ntmps48
    go_wp2_with fail
    go_region
    go_wp2
    exact bodyPost_ret (v := .agg #[.int .i64 line, .int .i64 (col + t.size)]) (by simp [results, Tryz.results48, go_sem]) rfl ⟨by rw [HC.out], (by repeat first | (with_reducible first | exact Below.refl _ _ | assumption) | ((with_reducible first | refine Below.setCell ?_ ?_ _ | refine Below.alloc ?_ ?_ _); rotate_left; · first | exact Nat.le_refl _ | (simp; done) | (simp; omega) | omega) | (with_reducible first | apply Below.drew | apply below_drewN') | refine Below.trans ?_ (Below.mono (by assumption) (by first | exact Nat.le_refl _ | (simp; done) | (simp; omega) | omega)) | exact Below.refl _ _ | assumption)⟩
end Go.Proofs.YtaekcfancfoccaaGreatDoor

namespace Go.Proofs.YtaekcfancfoccaaGreatDoor
open Go.RowKit Go.Lib

theorem formP_zero {L : ByteArray} {ws : List (ByteArray × Int)} : ∀ (n k : Nat), L.size - k = n → (formP L ws k).2 = 0 → k ≤ L.size → k ≤ ws.length → ws.length = L.size
  | 0, k, hn, h0, h1, h2 => by
    rw [formP_end (by omega)] at h0
    split at h0
    · simp at h0
    · omega
  | n + 1, k, hn, h0, h1, h2 => by
    have hk : k < L.size := by omega
    by_cases hl : k < ws.length
    · by_cases he : formE L[k] ws[k].1 = 0
      · rw [formP_go hk hl he] at h0
        exact formP_zero n (k + 1) (by omega) h0 (by omega) (by omega)
      · rw [formP_bad hk hl rfl he] at h0
        exact absurd h0 he
    · rw [formP_out hk hl] at h0
      simp at h0
def wordT (ws : List (ByteArray × Int)) (k : Nat) : ByteArray := (ws.getD k (⟨#[]⟩, 0)).1
def numW (t : ByteArray) : Int := (numL 9 t.data.toList).getD 0
theorem number_w (t : ByteArray) (c : Int) (hs : t.size ≤ 1000000) (w : World) :
    Calls Tryz.prog 83 #[.agg #[.string t, .int .i64 c]] w fun e w' => e = .returned (.int .i64 (numW t)) ∧ Below w.heap.size w w' := number_word t c hs w
def numT (ws : List (ByteArray × Int)) (k : Nat) : Int := numW (wordT ws k)
def headL : ByteArray := ⟨#[106, 110, 116, 57, 122, 57]⟩
def hd0 : ByteArray × Int × Int := (⟨#[]⟩, 0, 0)
def headP (ws : List (ByteArray × Int)) : (ByteArray × Int × Int) × Nat × Int :=
  if ¬ (wordT ws 0).toList = [106, 111, 105, 110, 116] then (hd0, 0, 7)
  else if (formP headL ws 1).2 ≠ 0 then (hd0, formP headL ws 1)
  else if wi (numT ws 3) 1 20000 = false then (hd0, 3, 2)
  else if wi (numT ws 5) 0 20000 = false then (hd0, 5, 2)
  else ((wordT ws 1, numT ws 3, numT ws 5), 0, 0)
def hdV (q : (ByteArray × Int × Int) × Nat × Int) : Value := .tuple #[.agg #[.string q.1.1, .int .i64 q.1.2.1, .int .i64 q.1.2.2, .slice none 0 0], .int .i64 q.2.1, .int .i64 q.2.2]
theorem wordT_eq {ws : List (ByteArray × Int)} {k : Nat} (h : k < ws.length) : wordT ws k = ws[k].1 := by unfold wordT; rw [List.getD_eq_getElem?_getD, List.getElem?_eq_getElem h]; rfl
theorem wsCells' {w : World} {l : List (ByteArray × Int)} {A : Option Addr} {B : Nat} (h : Row w B 2 A l.length (wsC l)) {k : Nat} (hk : k < l.length) :
    ∃ g o, A = some ⟨g, o, none⟩ ∧ g < B ∧ ∀ j, (hj : j < l.length) → w.cell? ⟨g, o + j * 2, none⟩ = some (.string (wordT l j)) ∧ w.cell? ⟨g, o + j * 2 + 1, none⟩ = some (.int .i64 l[j].2) := by
  obtain ⟨g, o, e, hg, hc⟩ := h.2 (by omega)
  refine ⟨g, o, e, hg, fun j hj => ?_⟩
  have hr := wsC_get l j l[j] (List.getElem?_eq_getElem hj)
  exact ⟨by rw [wordT_eq hj]; exact hc _ _ hr.1, by rw [Nat.add_assoc]; exact hc _ _ hr.2⟩

set_option maxRecDepth 100000 in
set_option maxHeartbeats 4000000 in
theorem rHead_any (ws : List (ByteArray × Int)) (A : Option Addr) (c B : Nat) (w : World) (hn : ws.length ≤ 1000000) (h0 : 0 < ws.length) (hs : ∀ p ∈ ws, p.1.size ≤ 1000000) (hR : Row w B 2 A ws.length (wsC ws)) (hB : B ≤ w.heap.size) :
    Calls Tryz.prog 47 #[.slice A ws.length c] w fun e w' => e = .returned (hdV (headP ws)) ∧ Below w.heap.size w w' := by
  obtain ⟨g, o, rfl, hg, hall⟩ := wsCells' hR h0
  have c0 := (hall 0 h0).1
  have HALL := Lib.hid hall
  rw [Nat.zero_mul, Nat.add_zero] at c0
  have hgw : g < w.heap.size := by omega
  clear hall
  by_cases hj : (wordT ws 0).toList = [106, 111, 105, 110, 116]
  · have g1 : ((wordT ws 0).toList == [106, 111, 105, 110, 116]) = true := by rw [beq_iff_eq]; exact hj
    have HJ := Lib.hid hj
    clear hj
    go_enter Tryz.func47, Tryz.ntmps47
    go_wp2_with fail
    refine (form_any headL ws _ c B _ (by decide) hn hs (hR.alloc hB _) (by simp; omega)).mono ?_
    rintro e wf ⟨k, n, rfl, HF, hB1⟩
    have br1 := (Blk.new w 24 #[.string ⟨#[]⟩, .int .i64 0, .int .i64 0, .slice none 0 0]).below hB1 (Blk.new w _ _).lt
    have hBC : Below w.heap.size w wf := ((Below.refl _ _).alloc (Nat.le_refl _) _).trans (hB1.mono (by simp))
    have hR1 := (hR.alloc hB (.cells #[.string ⟨#[]⟩, .int .i64 0, .int .i64 0, .slice none 0 0] 24)).below hB1 (by simp; omega)
    have lr1 := br1.lt
    have hzC := Below.size hBC
    obtain ⟨d0, d1, d2, d3, df⟩ := blk4 br1
    clear hB1 c0
    by_cases hn0 : n = 0
    · subst hn0
      have hl6 : ws.length = 6 := formP_zero (L := headL) 5 1 rfl (by rw [HF.out]) (by decide) h0
      have HB : Hid (headP ws = if wi (numT ws 3) 1 20000 = false then (hd0, 3, 2) else if wi (numT ws 5) 0 20000 = false then (hd0, 5, 2) else ((wordT ws 1, numT ws 3, numT ws 5), 0, 0)) := Lib.hid (by
        unfold headP; rw [if_neg (not_not_intro HJ.out), if_neg (by rw [HF.out]; simp)])
      have hbe : ∀ j v, w.cell? ⟨g, j, none⟩ = some v → wf.cell? ⟨g, j, none⟩ = some v := fun j v h => (hBC.cell (p := ⟨g, j, none⟩) hgw).trans h
      have t1 := hbe _ _ (HALL.out 1 (by omega)).1
      have t3 := hbe _ _ (HALL.out 3 (by omega)).1
      have t3' := hbe _ _ (HALL.out 3 (by omega)).2
      have t5 := hbe _ _ (HALL.out 5 (by omega)).1
      have t5' := hbe _ _ (HALL.out 5 (by omega)).2
      simp only [Nat.reduceMul, Nat.add_assoc, Nat.reduceAdd] at t1 t3 t3' t5 t5'
      have sz : ∀ j, j < ws.length → (wordT ws j).size ≤ 1000000 := fun j h => by rw [wordT_eq h]; exact hs _ (List.getElem_mem h)
      have s3 := sz 3 (by omega)
      have s5 := sz 5 (by omega)
      have e3 : numT ws 3 = numW (wordT ws 3) := rfl
      have e5 : numT ws 5 = numW (wordT ws 5) := rfl
      rw [e3, e5] at HB
      clear e3 e5
      clear sz hbe HALL HJ HF hs hR hR1
      generalize ws[3].2 = q3 at *
      generalize ws[5].2 = q5 at *
      generalize wordT ws 1 = nm at *
      generalize wordT ws 3 = x3 at *
      generalize wordT ws 5 = x5 at *
      rw [hl6]
      clear hl6 hn h0
      have hgw1 : g < wf.heap.size := by omega
      go_wp2_with fail
      refine wp_region_w (Gr _) (by kernel_rfl) (Below.refl _ _).drew ?_
      refine wpW_det (t' := ?ct0R1) 0 (by rfl) (by kernel_rfl) (NQ_free _) (by kernel_rfl) ?cw0R1 ?ch0R1 ?ca0R1 (Eq.refl _) ?cH0R1
      case cw0R1 => (go_simp; done)
      case ch0R1 =>
        intro ds w' hS K hK
        have hc := (bcell hS).1; have hf := (bcell hS).2; have hz := hS.size; (try simp at hz); go_simp; (try go_bits)
        first
          | exact hK _ hS (Gr.refl _)
          | (go_at_call 83; refine (number_w _ _ (by assumption) _).mono ?_; rintro e wq ⟨rfl, hBq⟩; exact hK _ (Below.trans hS (Below.mono hBq (Below.size hS))) hBq)
          | exact hK _ (hS.alloc hS.size _) ((Below.refl _ _).alloc (Nat.le_refl _) _)
      case ca0R1 => (first | (simp [Act.put]; done) | (simp [Act.put, *]; done))
      try dsimp only
      refine wpW_det (t' := ?ct1R1) 1 (by rfl) (by kernel_rfl) (NQ_free _) (by kernel_rfl) ?cw1R1 ?ch1R1 ?ca1R1 (Eq.refl _) ?cH1R1
      case cw1R1 => (go_simp; done)
      case ch1R1 =>
        intro ds w' hS K hK
        have hc := (bcell hS).1; have hf := (bcell hS).2; have hz := hS.size; (try simp at hz); go_simp; (try go_bits)
        first
          | exact hK _ hS (Gr.refl _)
          | (go_at_call 83; refine (number_w _ _ (by assumption) _).mono ?_; rintro e wq ⟨rfl, hBq⟩; exact hK _ (Below.trans hS (Below.mono hBq (Below.size hS))) hBq)
          | exact hK _ (hS.alloc hS.size _) ((Below.refl _ _).alloc (Nat.le_refl _) _)
      case ca1R1 => (first | (simp [Act.put]; done) | (simp [Act.put, *]; done))
      try dsimp only
      refine wpW_det (t' := ?ct2R1) 2 (by rfl) (by kernel_rfl) (NQ_free _) (by kernel_rfl) ?cw2R1 ?ch2R1 ?ca2R1 (Eq.refl _) ?cH2R1
      case cw2R1 => (go_simp; done)
      case ch2R1 =>
        intro ds w' hS K hK
        have hc := (bcell hS).1; have hf := (bcell hS).2; have hz := hS.size; (try simp at hz); go_simp; (try go_bits)
        first
          | exact hK _ hS (Gr.refl _)
          | (go_at_call 83; refine (number_w _ _ (by assumption) _).mono ?_; rintro e wq ⟨rfl, hBq⟩; exact hK _ (Below.trans hS (Below.mono hBq (Below.size hS))) hBq)
          | exact hK _ (hS.alloc hS.size _) ((Below.refl _ _).alloc (Nat.le_refl _) _)
      case ca2R1 => (first | (simp [Act.put]; done) | (simp [Act.put, *]; done))
      try dsimp only
      refine wpW_det (t' := ?ct3R1) 3 (by rfl) (by kernel_rfl) (NQ_free _) (by kernel_rfl) ?cw3R1 ?ch3R1 ?ca3R1 (Eq.refl _) ?cH3R1
      case cw3R1 => (go_simp; done)
      case ch3R1 =>
        intro ds w' hS K hK
        have hc := (bcell hS).1; have hf := (bcell hS).2; have hz := hS.size; (try simp at hz); go_simp; (try go_bits)
        first
          | exact hK _ hS (Gr.refl _)
          | (go_at_call 83; refine (number_w _ _ (by assumption) _).mono ?_; rintro e wq ⟨rfl, hBq⟩; exact hK _ (Below.trans hS (Below.mono hBq (Below.size hS))) hBq)
          | exact hK _ (hS.alloc hS.size _) ((Below.refl _ _).alloc (Nat.le_refl _) _)
      case ca3R1 => (first | (simp [Act.put]; done) | (simp [Act.put, *]; done))
      try dsimp only
      refine wpW_det (t' := ?ct4R1) 4 (by rfl) (by kernel_rfl) (NQ_free _) (by kernel_rfl) ?cw4R1 ?ch4R1 ?ca4R1 (Eq.refl _) ?cH4R1
      case cw4R1 => (go_simp; done)
      case ch4R1 =>
        intro ds w' hS K hK
        have hc := (bcell hS).1; have hf := (bcell hS).2; have hz := hS.size; (try simp at hz); go_simp; (try go_bits)
        first
          | exact hK _ hS (Gr.refl _)
          | (go_at_call 83; refine (number_w _ _ (by assumption) _).mono ?_; rintro e wq ⟨rfl, hBq⟩; exact hK _ (Below.trans hS (Below.mono hBq (Below.size hS))) hBq)
          | exact hK _ (hS.alloc hS.size _) ((Below.refl _ _).alloc (Nat.le_refl _) _)
      case ca4R1 => (first | (simp [Act.put]; done) | (simp [Act.put, *]; done))
      try dsimp only
      refine wpW_det (t' := ?ct5R1) 5 (by rfl) (by kernel_rfl) (NQ_free _) (by kernel_rfl) ?cw5R1 ?ch5R1 ?ca5R1 (Eq.refl _) ?cH5R1
      case cw5R1 => (go_simp; done)
      case ch5R1 =>
        intro ds w' hS K hK
        have hc := (bcell hS).1; have hf := (bcell hS).2; have hz := hS.size; (try simp at hz); go_simp; (try go_bits)
        first
          | exact hK _ hS (Gr.refl _)
          | (go_at_call 83; refine (number_w _ _ (by assumption) _).mono ?_; rintro e wq ⟨rfl, hBq⟩; exact hK _ (Below.trans hS (Below.mono hBq (Below.size hS))) hBq)
          | exact hK _ (hS.alloc hS.size _) ((Below.refl _ _).alloc (Nat.le_refl _) _)
      case ca5R1 => (first | (simp [Act.put]; done) | (simp [Act.put, *]; done))
      try dsimp only
      refine wpW_det (t' := ?ct6R1) 6 (by rfl) (by kernel_rfl) (NQ_free _) (by kernel_rfl) ?cw6R1 ?ch6R1 ?ca6R1 (Eq.refl _) ?cH6R1
      case cw6R1 => (go_simp; done)
      case ch6R1 =>
        intro ds w' hS K hK
        have hc := (bcell hS).1; have hf := (bcell hS).2; have hz := hS.size; (try simp at hz); go_simp; (try go_bits)
        first
          | exact hK _ hS (Gr.refl _)
          | (go_at_call 83; refine (number_w _ _ (by assumption) _).mono ?_; rintro e wq ⟨rfl, hBq⟩; exact hK _ (Below.trans hS (Below.mono hBq (Below.size hS))) hBq)
          | exact hK _ (hS.alloc hS.size _) ((Below.refl _ _).alloc (Nat.le_refl _) _)
      case ca6R1 => (first | (simp [Act.put]; done) | (simp [Act.put, *]; done))
      try dsimp only
      refine wpW_det (t' := ?ct7R1) 7 (by rfl) (by kernel_rfl) (NQ_free _) (by kernel_rfl) ?cw7R1 ?ch7R1 ?ca7R1 (Eq.refl _) ?cH7R1
      case cw7R1 => (go_simp; done)
      case ch7R1 =>
        intro ds w' hS K hK
        have hc := (bcell hS).1; have hf := (bcell hS).2; have hz := hS.size; (try simp at hz); go_simp; (try go_bits)
        first
          | exact hK _ hS (Gr.refl _)
          | (go_at_call 83; refine (number_w _ _ (by assumption) _).mono ?_; rintro e wq ⟨rfl, hBq⟩; exact hK _ (Below.trans hS (Below.mono hBq (Below.size hS))) hBq)
          | exact hK _ (hS.alloc hS.size _) ((Below.refl _ _).alloc (Nat.le_refl _) _)
      case ca7R1 => (first | (simp [Act.put]; done) | (simp [Act.put, *]; done))
      try dsimp only
      refine wpW_det (t' := ?ct8R1) 8 (by rfl) (by kernel_rfl) (NQ_free _) (by kernel_rfl) ?cw8R1 ?ch8R1 ?ca8R1 (Eq.refl _) ?cH8R1
      case cw8R1 => (go_simp; done)
      case ch8R1 =>
        intro ds w' hS K hK
        have hc := (bcell hS).1; have hf := (bcell hS).2; have hz := hS.size; (try simp at hz); go_simp; (try go_bits)
        first
          | exact hK _ hS (Gr.refl _)
          | (go_at_call 83; refine (number_w _ _ (by assumption) _).mono ?_; rintro e wq ⟨rfl, hBq⟩; exact hK _ (Below.trans hS (Below.mono hBq (Below.size hS))) hBq)
          | exact hK _ (hS.alloc hS.size _) ((Below.refl _ _).alloc (Nat.le_refl _) _)
      case ca8R1 => (first | (simp [Act.put]; done) | (simp [Act.put, *]; done))
      try dsimp only
      refine wpW_det (t' := ?ct9R1) 9 (by rfl) (by kernel_rfl) (NQ_free _) (by kernel_rfl) ?cw9R1 ?ch9R1 ?ca9R1 (Eq.refl _) ?cH9R1
      case cw9R1 => (go_simp; done)
      case ch9R1 =>
        intro ds w' hS K hK
        have hc := (bcell hS).1; have hf := (bcell hS).2; have hz := hS.size; (try simp at hz); go_simp; (try go_bits)
        first
          | exact hK _ hS (Gr.refl _)
          | (go_at_call 83; refine (number_w _ _ (by assumption) _).mono ?_; rintro e wq ⟨rfl, hBq⟩; exact hK _ (Below.trans hS (Below.mono hBq (Below.size hS))) hBq)
          | exact hK _ (hS.alloc hS.size _) ((Below.refl _ _).alloc (Nat.le_refl _) _)
      case ca9R1 => (first | (simp [Act.put]; done) | (simp [Act.put, *]; done))
      try dsimp only
      refine wpW_det (t' := ?ct10R1) 10 (by rfl) (by kernel_rfl) (NQ_free _) (by kernel_rfl) ?cw10R1 ?ch10R1 ?ca10R1 (Eq.refl _) ?cH10R1
      case cw10R1 => (go_simp; done)
      case ch10R1 =>
        intro ds w' hS K hK
        have hc := (bcell hS).1; have hf := (bcell hS).2; have hz := hS.size; (try simp at hz); go_simp; (try go_bits)
        first
          | exact hK _ hS (Gr.refl _)
          | (go_at_call 83; refine (number_w _ _ (by assumption) _).mono ?_; rintro e wq ⟨rfl, hBq⟩; exact hK _ (Below.trans hS (Below.mono hBq (Below.size hS))) hBq)
          | exact hK _ (hS.alloc hS.size _) ((Below.refl _ _).alloc (Nat.le_refl _) _)
      case ca10R1 => (first | (simp [Act.put]; done) | (simp [Act.put, *]; done))
      try dsimp only
      refine wpW_det (t' := ?ct11R1) 11 (by rfl) (by kernel_rfl) (NQ_free _) (by kernel_rfl) ?cw11R1 ?ch11R1 ?ca11R1 (Eq.refl _) ?cH11R1
      case cw11R1 => (go_simp; done)
      case ch11R1 =>
        intro ds w' hS K hK
        have hc := (bcell hS).1; have hf := (bcell hS).2; have hz := hS.size; (try simp at hz); go_simp; (try go_bits)
        first
          | exact hK _ hS (Gr.refl _)
          | (go_at_call 83; refine (number_w _ _ (by assumption) _).mono ?_; rintro e wq ⟨rfl, hBq⟩; exact hK _ (Below.trans hS (Below.mono hBq (Below.size hS))) hBq)
          | exact hK _ (hS.alloc hS.size _) ((Below.refl _ _).alloc (Nat.le_refl _) _)
      case ca11R1 => (first | (simp [Act.put]; done) | (simp [Act.put, *]; done))
      try dsimp only
      refine wpW_det (t' := ?ct12R1) 12 (by rfl) (by kernel_rfl) (NQ_free _) (by kernel_rfl) ?cw12R1 ?ch12R1 ?ca12R1 (Eq.refl _) ?cH12R1
      case cw12R1 => (go_simp; done)
      case ch12R1 =>
        intro ds w' hS K hK
        have hc := (bcell hS).1; have hf := (bcell hS).2; have hz := hS.size; (try simp at hz); go_simp; (try go_bits)
        first
          | exact hK _ hS (Gr.refl _)
          | (go_at_call 83; refine (number_w _ _ (by assumption) _).mono ?_; rintro e wq ⟨rfl, hBq⟩; exact hK _ (Below.trans hS (Below.mono hBq (Below.size hS))) hBq)
          | exact hK _ (hS.alloc hS.size _) ((Below.refl _ _).alloc (Nat.le_refl _) _)
      case ca12R1 => (first | (simp [Act.put]; done) | (simp [Act.put, *]; done))
      try dsimp only
      clear t1 t3 t3' t5 t5' d0 d1 d2 d3 df s3 s5
      generalize numW x3 = a at *
      generalize numW x5 = b at *
      refine wpW_branch [13] (by kernel_rfl) (by simp) ?_
      intro w1 hg1 hS1
      try have z := Blk.gr z hg1
      try (have zz := blk4 z; obtain ⟨z0, z1, z2, z3, zf⟩ := zz)
      try have lz := z.lt
      refine each_cons ?_ (each_nil)
      · refine wpOp_go (by rfl) (Eq.refl _) (by go_simp; done) ?_
        intro K hK
        go_simp
        try simp only [Act.put]
        have z := Blk.new w1 24 #[.string ⟨#[]⟩, .int .i64 0, .int .i64 0, .slice none 0 0]
        have hzp := Below.size hS1
        refine hK _ _ (Below.alloc hS1 (Below.size hS1) _) ?_
        clear hK K
        refine wpW_branch [14] (by kernel_rfl) (by simp) ?_
        intro w2 hg2 hS2
        try have z := Blk.gr z hg2
        try (have zz := blk4 z; obtain ⟨z0, z1, z2, z3, zf⟩ := zz)
        try have lz := z.lt
        refine each_cons ?_ (each_nil)
        · refine wpOp_go (by rfl) (Eq.refl _) (by go_simp; done) ?_
          intro K hK
          go_simp
          try simp only [Act.put]
          have z := Blk.set4 z (.string nm) (.int .i64 a) (.int .i64 b) (.slice none 0 0)
          refine hK _ _ (Below.set4 hS2 hzp) ?_
          clear hK K z0 z1 z2 z3 zf
          refine wpW_end (by kernel_rfl) ?_
          intro we hg hS
          unfold NQ
          dsimp only
          replace z := Blk.gr z hg
          have br2 := br1.below hS lr1
          have lr2 := br2.lt
          have lz2 := z.lt
          have hBD := hBC.trans (hS.mono hBC.size)
          obtain ⟨z0, z1, z2, z3, zf⟩ := blk4 z
          obtain ⟨d0, d1, d2, d3, df⟩ := blk4 br2
          cases q1 : wi a 1 20000 with
          | false =>
            have HE : Hid (headP ws = (hd0, 3, 2)) := Lib.hid (by rw [HB.out, if_pos q1])
            go_wp2_with (go_at_call 36; refine (bWithin_any _ _ _ _).mono ?_; rintro e w1 ⟨rfl, rfl⟩)
            have e6 := Blk.set4 br2 (.string ⟨#[]⟩) (.int .i64 0) (.int .i64 0) (.slice none 0 0)
            obtain ⟨y0, y1, y2, y3, _⟩ := blk4 e6
            refine bodyPost_ret (v := hdV (hd0, 3, 2)) ?_ rfl ⟨by rw [HE.out], Below.set4 hBD (by omega)⟩
            simp [results, Tryz.results47, go_sem, hdV, hd0, y0, y1, y2, y3]
          | true =>
            cases q2 : wi b 0 20000 with
            | false =>
              have HE : Hid (headP ws = (hd0, 5, 2)) := Lib.hid (by rw [HB.out, if_neg (by rw [q1]; simp), if_pos q2])
              go_wp2_with (go_at_call 36; refine (bWithin_any _ _ _ _).mono ?_; rintro e w1 ⟨rfl, rfl⟩)
              have e6 := Blk.set4 br2 (.string ⟨#[]⟩) (.int .i64 0) (.int .i64 0) (.slice none 0 0)
              obtain ⟨y0, y1, y2, y3, _⟩ := blk4 e6
              refine bodyPost_ret (v := hdV (hd0, 5, 2)) ?_ rfl ⟨by rw [HE.out], Below.set4 hBD (by omega)⟩
              simp [results, Tryz.results47, go_sem, hdV, hd0, y0, y1, y2, y3]
            | true =>
              have HE : Hid (headP ws = ((nm, a, b), 0, 0)) := Lib.hid (by rw [HB.out, if_neg (by rw [q1]; simp), if_neg (by rw [q2]; simp)])
              go_wp2_with (go_at_call 36; refine (bWithin_any _ _ _ _).mono ?_; rintro e w1 ⟨rfl, rfl⟩)
              have e6 := Blk.set4 br2 (.string nm) (.int .i64 a) (.int .i64 b) (.slice none 0 0)
              obtain ⟨y0, y1, y2, y3, _⟩ := blk4 e6
              refine bodyPost_ret (v := hdV ((nm, a, b), 0, 0)) ?_ rfl ⟨by rw [HE.out], Below.set4 hBD (by omega)⟩
              simp [results, Tryz.results47, go_sem, hdV, y0, y1, y2, y3]
    · have HE : Hid (headP ws = (hd0, k, n)) := Lib.hid (by unfold headP; rw [if_neg (not_not_intro HJ.out), if_pos (by rw [HF.out]; exact hn0), HF.out])
      have g2 : (n != 0) = true := by rw [bne, beq_eq_false_iff_ne.2 hn0]; rfl
      clear hn0
      go_wp2_with fail
      have e6 := Blk.set4 br1 (.string ⟨#[]⟩) (.int .i64 0) (.int .i64 0) (.slice none 0 0)
      obtain ⟨z0, z1, z2, z3, _⟩ := blk4 e6
      refine bodyPost_ret (v := hdV (hd0, k, n)) ?_ rfl ⟨by rw [HE.out], Below.set4 hBC (by omega)⟩
      simp [results, Tryz.results47, go_sem, hdV, hd0, z0, z1, z2, z3]
  · have HE : Hid (headP ws = (hd0, 0, 7)) := Lib.hid (by unfold headP; rw [if_pos hj])
    have g1 : ((wordT ws 0).toList == [106, 111, 105, 110, 116]) = false := beq_eq_false_iff_ne.2 hj
    clear hj
    go_enter Tryz.func47, Tryz.ntmps47
    go_wp2
    refine bodyPost_ret (v := hdV (hd0, 0, 7)) ?_ rfl ⟨by rw [HE.out], (by repeat first | (with_reducible first | exact Below.refl _ _ | assumption) | ((with_reducible first | refine Below.setCell ?_ ?_ _ | refine Below.alloc ?_ ?_ _); rotate_left; · first | exact Nat.le_refl _ | (simp; done) | (simp; omega) | omega) | (with_reducible first | apply Below.drew | apply below_drewN') | refine Below.trans ?_ (Below.mono (by assumption) (by first | exact Nat.le_refl _ | (simp; done) | (simp; omega) | omega)) | exact Below.refl _ _ | assumption)⟩
    simp [results, Tryz.results47, go_sem, hdV, hd0]
end Go.Proofs.YtaekcfancfoccaaGreatDoor
