/- Contract: slices.Chunk of bytes, two by two, and its iterator. -/
import Derived.RangeFuncBox
import Derived.RangeFuncLeaves
import Derived.RangeFuncNested
import Derived.Shelf.Abstract
import Derived.WalkKit
import Derived.OwnWalkIn
import Derived.TacticsInMore
import Derived.LoopNIn
import Derived.LoopIn
import Derived.Maps.AppendAt
import Derived.Test.YtfgeipapmdhneaaDoorTsE
import Derived.Test.YtfgeipapmdhneaaDoorRgI
namespace Go.Proofs.YtfgeipapmdhneaaDoor
open Go.RowKit Go.Lib

attribute [local go_sem] Oper.semAt_some

/-- Two blocks lie as they lay. -/
def KN2 (a b : Nat) (W W' : World) : Prop := W'.heap[a]? = W.heap[a]? ∧ W'.heap[b]? = W.heap[b]?
theorem KN2.refl (a b : Nat) (W : World) : KN2 a b W W := ⟨rfl, rfl⟩
theorem KN2.trans {a b : Nat} {X Y Z : World} (h : KN2 a b X Y) (k : KN2 a b Y Z) : KN2 a b X Z := ⟨k.1.trans h.1, k.2.trans h.2⟩
/-- The first k numbers below m. -/
def finTo (m k : Nat) : List (Fin m) := (List.finRange m).take k
theorem finTo_succ {m k : Nat} (h : k < m) : finTo m (k + 1) = finTo m k ++ [⟨k, h⟩] := by
  unfold finTo
  rw [List.take_add_one, List.getElem?_eq_getElem (by simpa using h)]
  simp
theorem finTo_length {m k : Nat} (h : k ≤ m) : (finTo m k).length = k := by
  unfold finTo; rw [List.length_take, List.length_finRange]; omega
theorem finTo_all (m : Nat) : finTo m m = List.finRange m := by unfold finTo; exact List.take_of_length_le (by simp)
theorem finTo_prefix (m k : Nat) : finTo m k <+: List.finRange m := List.take_prefix _ _
theorem chunk_any (A : Option Addr) (m c : Nat) (w : World) : Calls Tryd.prog 32 #[.slice A m c, .int .i64 2] w fun e w' => e = .returned (.func (.func 46) #[] #[.pointer (some ⟨w.heap.size, 0, none⟩), .pointer (some ⟨w.heap.size + 1, 0, none⟩)]) ∧ w' = (w.alloc (.cells #[.slice A m c] 67)).alloc (.cells #[.int .i64 2] 3) := by
  go_enter Tryd.func32, Tryd.ntmps32
  go_wp2
  go_ret
  exact ⟨rfl, rfl⟩
set_option maxRecDepth 100000 in
set_option maxHeartbeats 4000000 in
theorem chunk1_in (n : Nat) (hn : 1 ≤ n) (l Bs Bn g o m cap : Nat) (hm : m ≤ 100000) (hcap : 2 * m ≤ cap) (J Jx : List (Fin m) → World → Prop)
    (hY : ∀ pre (k : Fin m) W, J pre W → pre.length < m → YieldAt Fence.wide (n - 1) Tryd.prog l #[.slice (some ⟨g, o + 2 * k.1, none⟩) 2 2] W fun e W' =>
      (e = .returned (.bool true) ∧ J (pre ++ [k]) W' ∧ KN2 Bs Bn W W') ∨ (e = .returned (.bool false) ∧ Jx (pre ++ [k]) W'))
    (hJ : ∀ pre X Y, J pre X → Gr X Y → J pre Y)
    (W : World) (hbs : Boxed W Bs 67 (.slice (some ⟨g, o, none⟩) (2 * m) cap)) (hbn : Boxed W Bn 3 (.int .i64 2)) (h0 : J [] W) :
    CallsIn Fence.wide n Tryd.prog 46 #[.func (.yield l) #[] #[], .pointer (some ⟨Bs, 0, none⟩), .pointer (some ⟨Bn, 0, none⟩)] W fun e W' => (∃ v, e = .returned v) ∧
      (J (List.finRange m) W' ∨ ∃ pre, pre <+: List.finRange m ∧ Jx pre W') := by
  refine callsIn_of_wp Tryd.func46 rfl trivial ?_ rfl
  simp only [Tryd.ntmps46, List.size_toArray, List.length_cons, List.length_nil, Nat.reduceAdd, Nat.reduceSub, Array.replicate_succ, Array.replicate_zero, List.push_toArray, List.append_toArray, List.nil_append, List.cons_append]
  gi_wp2
  have hHY := Lib.hid hY
  have hHJ := Lib.hid hJ
  clear hY hJ
  gi_loopw [4] (fun s4 wr => ∃ (k : Nat), s4 = .int .i64 (2 * (k : Int)) ∧ k ≤ m ∧ Boxed wr Bs 67 (.slice (some ⟨g, o, none⟩) (2 * m) cap) ∧ Boxed wr Bn 3 (.int .i64 2) ∧ J (finTo m k) wr) (fun s4 _ => 2 * m - (RowKit.intOf s4).toNat)
  case atStart => exact ⟨0, rfl, Nat.zero_le _, hbs, hbn, by simpa [finTo] using h0⟩
  case round =>
    clear hbs hbn h0
    obtain ⟨k, rfl, hk, hs, hb, hj⟩ := hrel
    have c0 : wr.cell? ⟨Bs, 0, none⟩ = some (.slice (some ⟨g, o, none⟩) (2 * m) cap) := Blk.cell hs 0
    have c1 : wr.cell? ⟨Bn, 0, none⟩ = some (.int .i64 2) := Blk.cell hb 0
    have l0 : Bs < wr.heap.size := Blk.lt hs
    have l1 : Bn < wr.heap.size := Blk.lt hb
    have HS := Lib.hid hs; have HB := Lib.hid hb; have HJ := Lib.hid hj
    clear hs hb hj
    by_cases hlt : k < m
    · have hlI : 2 * (k : Int) < 2 * (m : Int) := by omega
      have hlI2 : 2 * (k : Int) ≤ 2 * (m : Int) := by omega
      have hlI3 : (2 * (m : Int)) ≤ (cap : Int) := by omega
      have hlI4 : 0 ≤ 2 * (k : Int) := by omega
      have hlI5 : 2 * (k : Int) ≤ (cap : Int) := by omega
      gi_wp2_with fail
      refine wpIn_region_w 6 (Gr _) (by kernel_rfl) (Below.refl _ _).drew ?_
      refine wpWI_det (t' := ?ct0R1) (l := [5, 4, 3, 2, 1, 0]) 0 (by kernel_rfl) (by decide) (by rfl) (by kernel_rfl) (NQ_free _) (by kernel_rfl) ?cw0R1 ?ch0R1 ?ca0R1 (Eq.refl _) ?cH0R1
      case cw0R1 => (go_simp; done)
      case ch0R1 =>
        intro ds w' hS K hK
        have hc := (bcell hS).1
        have hf := (bcell hS).2
        have hz := hS.size
        try simp at hz
        go_simp
        try go_bits
        first
          | exact hK _ hS (Gr.refl _)
          | exact hK _ (by repeat (first | (with_reducible exact Below.refl _ _) | (with_reducible assumption) | ((with_reducible refine Below.setCell ?_ ?_ _); rotate_left; · (first | exact Nat.le_refl _ | (simp; done) | (simp; omega) | omega)) | ((with_reducible refine Below.alloc ?_ ?_ _); rotate_left; · (first | exact Nat.le_refl _ | (simp; done) | (simp; omega) | omega)) | (with_reducible apply Below.drew) | (with_reducible apply below_drewN') | (refine Below.trans ?_ (Below.mono (by assumption) (by first | exact Nat.le_refl _ | (simp; done) | (simp; omega) | omega))) | exact Below.refl _ _ | assumption)) (by repeat (first | (with_reducible exact Below.refl _ _) | (with_reducible assumption) | ((with_reducible refine Below.setCell ?_ ?_ _); rotate_left; · (first | exact Nat.le_refl _ | (simp; done) | (simp; omega) | omega)) | ((with_reducible refine Below.alloc ?_ ?_ _); rotate_left; · (first | exact Nat.le_refl _ | (simp; done) | (simp; omega) | omega)) | (with_reducible apply Below.drew) | (with_reducible apply below_drewN') | (refine Below.trans ?_ (Below.mono (by assumption) (by first | exact Nat.le_refl _ | (simp; done) | (simp; omega) | omega))) | exact Below.refl _ _ | assumption))
      case ca0R1 => (first | (simp [Act.put]; done) | (simp [Act.put, *]; done))
      try dsimp only
      refine wpWI_det (t' := ?ct1R1) (l := [5, 4, 3, 2, 1, 0]) 1 (by kernel_rfl) (by decide) (by rfl) (by kernel_rfl) (NQ_free _) (by kernel_rfl) ?cw1R1 ?ch1R1 ?ca1R1 (Eq.refl _) ?cH1R1
      case cw1R1 => (go_simp; done)
      case ch1R1 =>
        intro ds w' hS K hK
        have hc := (bcell hS).1
        have hf := (bcell hS).2
        have hz := hS.size
        try simp at hz
        go_simp
        try go_bits
        first
          | exact hK _ hS (Gr.refl _)
          | exact hK _ (by repeat (first | (with_reducible exact Below.refl _ _) | (with_reducible assumption) | ((with_reducible refine Below.setCell ?_ ?_ _); rotate_left; · (first | exact Nat.le_refl _ | (simp; done) | (simp; omega) | omega)) | ((with_reducible refine Below.alloc ?_ ?_ _); rotate_left; · (first | exact Nat.le_refl _ | (simp; done) | (simp; omega) | omega)) | (with_reducible apply Below.drew) | (with_reducible apply below_drewN') | (refine Below.trans ?_ (Below.mono (by assumption) (by first | exact Nat.le_refl _ | (simp; done) | (simp; omega) | omega))) | exact Below.refl _ _ | assumption)) (by repeat (first | (with_reducible exact Below.refl _ _) | (with_reducible assumption) | ((with_reducible refine Below.setCell ?_ ?_ _); rotate_left; · (first | exact Nat.le_refl _ | (simp; done) | (simp; omega) | omega)) | ((with_reducible refine Below.alloc ?_ ?_ _); rotate_left; · (first | exact Nat.le_refl _ | (simp; done) | (simp; omega) | omega)) | (with_reducible apply Below.drew) | (with_reducible apply below_drewN') | (refine Below.trans ?_ (Below.mono (by assumption) (by first | exact Nat.le_refl _ | (simp; done) | (simp; omega) | omega))) | exact Below.refl _ _ | assumption))
      case ca1R1 => (first | (simp [Act.put]; done) | (simp [Act.put, *]; done))
      try dsimp only
      refine wpWI_det (t' := ?ct2R1) (l := [5, 4, 3, 2, 1, 0]) 2 (by kernel_rfl) (by decide) (by rfl) (by kernel_rfl) (NQ_free _) (by kernel_rfl) ?cw2R1 ?ch2R1 ?ca2R1 (Eq.refl _) ?cH2R1
      case cw2R1 => (go_simp; done)
      case ch2R1 =>
        intro ds w' hS K hK
        have hc := (bcell hS).1
        have hf := (bcell hS).2
        have hz := hS.size
        try simp at hz
        go_simp
        try go_bits
        first
          | exact hK _ hS (Gr.refl _)
          | exact hK _ (by repeat (first | (with_reducible exact Below.refl _ _) | (with_reducible assumption) | ((with_reducible refine Below.setCell ?_ ?_ _); rotate_left; · (first | exact Nat.le_refl _ | (simp; done) | (simp; omega) | omega)) | ((with_reducible refine Below.alloc ?_ ?_ _); rotate_left; · (first | exact Nat.le_refl _ | (simp; done) | (simp; omega) | omega)) | (with_reducible apply Below.drew) | (with_reducible apply below_drewN') | (refine Below.trans ?_ (Below.mono (by assumption) (by first | exact Nat.le_refl _ | (simp; done) | (simp; omega) | omega))) | exact Below.refl _ _ | assumption)) (by repeat (first | (with_reducible exact Below.refl _ _) | (with_reducible assumption) | ((with_reducible refine Below.setCell ?_ ?_ _); rotate_left; · (first | exact Nat.le_refl _ | (simp; done) | (simp; omega) | omega)) | ((with_reducible refine Below.alloc ?_ ?_ _); rotate_left; · (first | exact Nat.le_refl _ | (simp; done) | (simp; omega) | omega)) | (with_reducible apply Below.drew) | (with_reducible apply below_drewN') | (refine Below.trans ?_ (Below.mono (by assumption) (by first | exact Nat.le_refl _ | (simp; done) | (simp; omega) | omega))) | exact Below.refl _ _ | assumption))
      case ca2R1 => (first | (simp [Act.put]; done) | (simp [Act.put, *]; done))
      try dsimp only
      refine wpWI_det (t' := ?ct3R1) (l := [5, 4, 3, 2, 1, 0]) 3 (by kernel_rfl) (by decide) (by rfl) (by kernel_rfl) (NQ_free _) (by kernel_rfl) ?cw3R1 ?ch3R1 ?ca3R1 (Eq.refl _) ?cH3R1
      case cw3R1 => (go_simp; done)
      case ch3R1 =>
        intro ds w' hS K hK
        have hc := (bcell hS).1
        have hf := (bcell hS).2
        have hz := hS.size
        try simp at hz
        go_simp
        try go_bits
        first
          | exact hK _ hS (Gr.refl _)
          | exact hK _ (by repeat (first | (with_reducible exact Below.refl _ _) | (with_reducible assumption) | ((with_reducible refine Below.setCell ?_ ?_ _); rotate_left; · (first | exact Nat.le_refl _ | (simp; done) | (simp; omega) | omega)) | ((with_reducible refine Below.alloc ?_ ?_ _); rotate_left; · (first | exact Nat.le_refl _ | (simp; done) | (simp; omega) | omega)) | (with_reducible apply Below.drew) | (with_reducible apply below_drewN') | (refine Below.trans ?_ (Below.mono (by assumption) (by first | exact Nat.le_refl _ | (simp; done) | (simp; omega) | omega))) | exact Below.refl _ _ | assumption)) (by repeat (first | (with_reducible exact Below.refl _ _) | (with_reducible assumption) | ((with_reducible refine Below.setCell ?_ ?_ _); rotate_left; · (first | exact Nat.le_refl _ | (simp; done) | (simp; omega) | omega)) | ((with_reducible refine Below.alloc ?_ ?_ _); rotate_left; · (first | exact Nat.le_refl _ | (simp; done) | (simp; omega) | omega)) | (with_reducible apply Below.drew) | (with_reducible apply below_drewN') | (refine Below.trans ?_ (Below.mono (by assumption) (by first | exact Nat.le_refl _ | (simp; done) | (simp; omega) | omega))) | exact Below.refl _ _ | assumption))
      case ca3R1 => (first | (simp [Act.put]; done) | (simp [Act.put, *]; done))
      try dsimp only
      refine wpWI_det (t' := ?ct4R1) (l := [5, 4, 3, 2, 1, 0]) 4 (by kernel_rfl) (by decide) (by rfl) (by kernel_rfl) (NQ_free _) (by kernel_rfl) ?cw4R1 ?ch4R1 ?ca4R1 (Eq.refl _) ?cH4R1
      case cw4R1 => (go_simp; done)
      case ch4R1 =>
        intro ds w' hS K hK
        have hc := (bcell hS).1
        have hf := (bcell hS).2
        have hz := hS.size
        try simp at hz
        go_simp
        try go_bits
        first
          | exact hK _ hS (Gr.refl _)
          | exact hK _ (by repeat (first | (with_reducible exact Below.refl _ _) | (with_reducible assumption) | ((with_reducible refine Below.setCell ?_ ?_ _); rotate_left; · (first | exact Nat.le_refl _ | (simp; done) | (simp; omega) | omega)) | ((with_reducible refine Below.alloc ?_ ?_ _); rotate_left; · (first | exact Nat.le_refl _ | (simp; done) | (simp; omega) | omega)) | (with_reducible apply Below.drew) | (with_reducible apply below_drewN') | (refine Below.trans ?_ (Below.mono (by assumption) (by first | exact Nat.le_refl _ | (simp; done) | (simp; omega) | omega))) | exact Below.refl _ _ | assumption)) (by repeat (first | (with_reducible exact Below.refl _ _) | (with_reducible assumption) | ((with_reducible refine Below.setCell ?_ ?_ _); rotate_left; · (first | exact Nat.le_refl _ | (simp; done) | (simp; omega) | omega)) | ((with_reducible refine Below.alloc ?_ ?_ _); rotate_left; · (first | exact Nat.le_refl _ | (simp; done) | (simp; omega) | omega)) | (with_reducible apply Below.drew) | (with_reducible apply below_drewN') | (refine Below.trans ?_ (Below.mono (by assumption) (by first | exact Nat.le_refl _ | (simp; done) | (simp; omega) | omega))) | exact Below.refl _ _ | assumption))
      case ca4R1 => (first | (simp [Act.put]; done) | (simp [Act.put, *]; done))
      try dsimp only
      refine wpWI_det (t' := ?ct5R1) (l := [5, 4, 3, 2, 1, 0]) 5 (by kernel_rfl) (by decide) (by rfl) (by kernel_rfl) (NQ_free _) (by kernel_rfl) ?cw5R1 ?ch5R1 ?ca5R1 (Eq.refl _) ?cH5R1
      case cw5R1 => (go_simp; done)
      case ch5R1 =>
        intro ds w' hS K hK
        have hc := (bcell hS).1
        have hf := (bcell hS).2
        have hz := hS.size
        try simp at hz
        go_simp
        try go_bits
        first
          | exact hK _ hS (Gr.refl _)
          | exact hK _ (by repeat (first | (with_reducible exact Below.refl _ _) | (with_reducible assumption) | ((with_reducible refine Below.setCell ?_ ?_ _); rotate_left; · (first | exact Nat.le_refl _ | (simp; done) | (simp; omega) | omega)) | ((with_reducible refine Below.alloc ?_ ?_ _); rotate_left; · (first | exact Nat.le_refl _ | (simp; done) | (simp; omega) | omega)) | (with_reducible apply Below.drew) | (with_reducible apply below_drewN') | (refine Below.trans ?_ (Below.mono (by assumption) (by first | exact Nat.le_refl _ | (simp; done) | (simp; omega) | omega))) | exact Below.refl _ _ | assumption)) (by repeat (first | (with_reducible exact Below.refl _ _) | (with_reducible assumption) | ((with_reducible refine Below.setCell ?_ ?_ _); rotate_left; · (first | exact Nat.le_refl _ | (simp; done) | (simp; omega) | omega)) | ((with_reducible refine Below.alloc ?_ ?_ _); rotate_left; · (first | exact Nat.le_refl _ | (simp; done) | (simp; omega) | omega)) | (with_reducible apply Below.drew) | (with_reducible apply below_drewN') | (refine Below.trans ?_ (Below.mono (by assumption) (by first | exact Nat.le_refl _ | (simp; done) | (simp; omega) | omega))) | exact Below.refl _ _ | assumption))
      case ca5R1 => (first | (simp [Act.put]; done) | (simp [Act.put, *]; done))
      try dsimp only
      refine wpWI_stop (by kernel_rfl) ?_
      intro wI hgI hSI
      refine wpAnyIn_ready (rs := [6]) (by kernel_rfl) (by simp) (AllReadyIn.cons (by rfl) ?_ AllReadyIn.nil)
      intro K hK
      go_simp
      try simp only [Act.put]
      refine hK _ _ ?_
      clear hK K
      refine wpAnyIn_done (by kernel_rfl) ?_ _
      unfold NQ
      dsimp only
      have hmin : (if ((2 * m - 2 * k : Nat) : Int) < 2 then ((2 * m - 2 * k : Nat) : Int) else 2) = 2 := if_neg (by omega)
      rw [hmin]
      have hgr : Gr wr wI := hSI
      have hsI : Boxed wI Bs 67 (.slice (some ⟨g, o, none⟩) (2 * m) cap) := (hgr.block Bs l0).trans HS.out
      have hbI : Boxed wI Bn 3 (.int .i64 2) := (hgr.block Bn l1).trans HB.out
      have d0 : wI.cell? ⟨Bs, 0, none⟩ = some (.slice (some ⟨g, o, none⟩) (2 * m) cap) := Blk.cell hsI 0
      have d1 : wI.cell? ⟨Bn, 0, none⟩ = some (.int .i64 2) := Blk.cell hbI 0
      have m0 : Bs < wI.heap.size := Blk.lt hsI
      have m1 : Bn < wI.heap.size := Blk.lt hbI
      have hjI := hHJ.out _ _ _ HJ.out hgr
      have hlI6 : 2 * (k : Int) + 2 ≤ (cap : Int) := by omega
      have hlI7 : 2 * (k : Int) + 2 ≤ 2 * (m : Int) := by omega
      obtain ⟨fn, tmps, assign, body, hy, hR⟩ := hHY.out (finTo m k) ⟨k, hlt⟩ wI hjI (by rw [finTo_length hk]; exact hlt)
      have HSI := Lib.hid hsI; have HBI := Lib.hid hbI
      clear hsI hbI hjI hmin c0 c1 l0 l1 HS HB HJ hgI hSI
      gi_wp2
      refine hR.mono ?_
      rintro e W3 (⟨rfl, hJ3, hk3⟩ | ⟨rfl, hJx3⟩)
      · have hs3 : Boxed W3 Bs 67 (.slice (some ⟨g, o, none⟩) (2 * m) cap) := hk3.1.trans HSI.out
        have hb3 : Boxed W3 Bn 3 (.int .i64 2) := hk3.2.trans HBI.out
        have c0 : W3.cell? ⟨Bs, 0, none⟩ = some (.slice (some ⟨g, o, none⟩) (2 * m) cap) := Blk.cell hs3 0
        have c1 : W3.cell? ⟨Bn, 0, none⟩ = some (.int .i64 2) := Blk.cell hb3 0
        have l0 : Bs < W3.heap.size := Blk.lt hs3
        have l1 : Bn < W3.heap.size := Blk.lt hb3
        have HS3 := Lib.hid hs3; have HB3 := Lib.hid hb3
        clear hs3 hb3 hk3 hR hy d0 d1 m0 m1
        gi_wp2
        go_roundw
        case rel => exact ⟨k + 1, by congr 1, by omega, HS3.out, HB3.out, by rw [finTo_succ hlt]; exact hJ3⟩
        case measure => simp only [RowKit.intOf]; omega
      · have hpre : finTo m k ++ [⟨k, hlt⟩] <+: List.finRange m := by rw [← finTo_succ hlt]; exact finTo_prefix _ _
        gi_wp2
        refine bodyPost_ret (results_none rfl _ _ _) rfl ?_
        exact ⟨⟨_, rfl⟩, .inr ⟨_, hpre, hJx3⟩⟩
    · obtain rfl : k = m := by omega
      gi_wp2
      go_end0
      exact ⟨⟨_, rfl⟩, .inl (by rw [← finTo_all]; exact HJ.out)⟩
theorem chunk_stops (n : Nat) (hn : 1 ≤ n) (Bs Bn g o m cap : Nat) (hm : m ≤ 100000) (hcap : 2 * m ≤ cap) (w : World) (hbs : Boxed w Bs 67 (.slice (some ⟨g, o, none⟩) (2 * m) cap)) (hbn : Boxed w Bn 3 (.int .i64 2)) :
    SeqStopsK Fence.wide n Tryd.prog 46 #[.pointer (some ⟨Bs, 0, none⟩), .pointer (some ⟨Bn, 0, none⟩)] (fun k : Fin m => #[.slice (some ⟨g, o + 2 * k.1, none⟩) 2 2]) (KN2 Bs Bn) (fun ys => ys = List.finRange m) (fun pre => pre <+: List.finRange m) m w := fun l J Jx W hW hJ _ hY h0 => by
  refine (chunk1_in n hn l Bs Bn g o m cap hm hcap J Jx hY (fun pre X Y hj hg => hJ pre X Y none hj ⟨hg.os, hg.tape, hg.output, hg.size, fun b hb _ => hg.block b hb⟩ (fun r e => by cases e)) W ((hW.block Bs (Blk.lt hbs)).trans hbs) ((hW.block Bn (Blk.lt hbn)).trans hbn) h0).mono ?_
  rintro e W' ⟨he, hj | ⟨pre, h1, hj⟩⟩
  · exact ⟨he, .inl ⟨_, rfl, hj⟩⟩
  · exact ⟨he, .inr ⟨pre, h1, hj⟩⟩
end Go.Proofs.YtfgeipapmdhneaaDoor
