/- Contracts: equal lists of cells, equal areas; the reference's neighbours. Contract: whether all cells of an area are in another one. -/
import Derived.Test.YtidgeagpgllkeaaGreatZaFjB
import Derived.Test.YtidgeagpgllkeaaGreatZaFiB
import Derived.Test.YtidgeagpgllkeaaGreatZaFgC
import Derived.Test.YtidgeagpgllkeaaGreatZaFcP
import Derived.Test.YtidgeagpgllkeaaGreatZaFjD
namespace Go.Proofs.YtidgeagpgllkeaaGreat
open Go.RowKit

set_option maxRecDepth 100000 in
set_option maxHeartbeats 1000000 in
theorem samePairs_eq (l : List (Int × Int)) (A C : Option Addr) (ca cb B : Nat) (w : World) (ha : Row w B 2 A l.length (cellsC l)) (hb : Row w B 2 C l.length (cellsC l)) (hal : l.length ≤ 9223372036854775807) (_hB : B ≤ w.heap.size) :
    Calls Tryz.prog 124 #[.slice A l.length ca, .slice C l.length cb] w fun e w' => e = .returned (.bool true) ∧ ∃ m, w' = w.drewN m := by
  have hl' : ((l.length : Int) != (l.length : Int)) = false := by simp
  go_enter Tryz.func124, Tryz.ntmps124
  go_wp2
  go_loopw [5] (fun i wr => ∃ k : Nat, k ≤ l.length ∧ i = .int .i64 k ∧ ∃ m, wr = w.drewN m) (fun i _ => l.length - (intOf i).toNat)
  case atStart => exact ⟨0, Nat.zero_le _, rfl, 0, rfl⟩
  case round =>
    obtain ⟨k, hk, rfl, hBB⟩ := hrel
    have HBB := Lib.hid hBB
    have ha' : Row wr B 2 A l.length (cellsC l) := by obtain ⟨m, rfl⟩ := hBB; exact ha.drewN m
    have hb' : Row wr B 2 C l.length (cellsC l) := by obtain ⟨m, rfl⟩ := hBB; exact hb.drewN m
    have hzb : wr.heap.size = w.heap.size := by obtain ⟨m, rfl⟩ := hBB; rfl
    clear hBB
    by_cases hlt : k < l.length
    · obtain ⟨g, o, hA, hg, c0, c1⟩ := cellPair ha' hlt
      obtain ⟨g2, o2, hC, hg2, d0, d1⟩ := cellPair hb' hlt
      generalize l[k] = x at *
      subst hA; subst hC
      have hq := eq_cell_same x.1 x.2
      have i1 : ((k : Int) < (l.length : Int)) = True := by simp; omega
      have lg : g < wr.heap.size := by omega
      have lg2 : g2 < wr.heap.size := by omega
      go_wp2
      go_quiet (fail)
      go_wp2
      refine ⟨⟨k + 1, by omega, by go_num, more_drewN HBB.out _⟩, by simp [intOf]; omega⟩
    · have i1 : ((k : Int) < (l.length : Int)) = False := by simp; omega
      go_wp2
      go_ret
      exact ⟨rfl, HBB.out⟩

/-- An area, read: its cells' slice. -/
structure ArOk (a : ArA) (B : Nat) (w : World) : Prop where
  len : a.2.length ≤ 9223372036854775807
  row : ∃ A c, a.1 = .slice A a.2.length c ∧ Row w B 2 A a.2.length (cellsC a.2)
theorem ArOk.below {a : ArA} {B C : Nat} {w w' : World} (h : ArOk a B w) (hb : Below C w w') (hC : B ≤ C) : ArOk a B w' :=
  ⟨h.len, by obtain ⟨A, c, e, hr⟩ := h.row; exact ⟨A, c, e, hr.below hb hC⟩⟩
abbrev encP (a : ArA) (p r c : Int) : Array Value := #[a.1, .int .i64 p, .int .i64 r, .int .i64 c]

set_option maxRecDepth 100000 in
set_option maxHeartbeats 1000000 in
theorem sameArea_eq (a b : ArA) (p r v : Int) (B : Nat) (w : World) (ha : ArOk a B w) (hb : ArOk b B w) (he : a.2 = b.2) (hB : B ≤ w.heap.size) :
    Calls Tryz.prog 63 #[.agg (encP a p r v), .agg (encP b p r v)] w fun e w' => e = .returned (.bool true) ∧ Below w.heap.size w w' := by
  obtain ⟨va, la⟩ := a
  obtain ⟨vb, lb⟩ := b
  obtain rfl : la = lb := he
  obtain ⟨hl, A, ca, e1, hra⟩ := ha
  obtain ⟨_, C, cb, e2, hrb⟩ := hb
  dsimp only at hl hra hrb e1 e2 ⊢
  subst e1
  subst e2
  have b1 := (Blk.new w 91 #[.slice A la.length ca, .int .i64 p, .int .i64 r, .int .i64 v]).alloc (.cells #[.slice C la.length cb, .int .i64 p, .int .i64 r, .int .i64 v] 91)
  have b2 := Blk.new (w.alloc (.cells #[.slice A la.length ca, .int .i64 p, .int .i64 r, .int .i64 v] 91)) 91 #[.slice C la.length cb, .int .i64 p, .int .i64 r, .int .i64 v]
  have hBB : Below w.heap.size w ((w.alloc (.cells #[.slice A la.length ca, .int .i64 p, .int .i64 r, .int .i64 v] 91)).alloc (.cells #[.slice C la.length cb, .int .i64 p, .int .i64 r, .int .i64 v] 91)) := (by repeat (first | (with_reducible exact Below.refl _ _) | (with_reducible assumption) | ((with_reducible refine Below.setCell ?_ ?_ _); rotate_left; · (first | exact Nat.le_refl _ | (simp; done) | (simp; omega) | omega)) | ((with_reducible refine Below.alloc ?_ ?_ _); rotate_left; · (first | exact Nat.le_refl _ | (simp; done) | (simp; omega) | omega)) | (with_reducible apply Below.drew) | (with_reducible apply below_drewN') | (refine Below.trans ?_ (Below.mono (by assumption) (by first | exact Nat.le_refl _ | (simp; done) | (simp; omega) | omega))) | exact Below.refl _ _ | assumption))
  rw [World.size_alloc] at b2
  obtain ⟨c0, c1, c2, c3, _⟩ := blk4 b1
  obtain ⟨d0, d1, d2, d3, _⟩ := blk4 b2
  have l1 := b1.lt
  have l2 := b2.lt
  have hq := eq_cell_same p r
  go_enter Tryz.func63, Tryz.ntmps63
  go_wp2_with (go_at_call 124; refine (samePairs_eq la A C ca cb B _ (hra.below hBB hB) (hrb.below hBB hB) hl (by have := Below.size hBB; omega)).mono ?_; rintro e w1 ⟨rfl, m, rfl⟩)
  go_ret
  exact ⟨by first | rfl | (simp; done), below_drewN' hBB _⟩

/-- Areas, read. -/
structure ArsOk (g : Int → Int → Int) (As : List ArA) (A : Option Addr) (B : Nat) (w : World) : Prop where
  len : As.length ≤ 9223372036854775807
  row : Row w B 4 A As.length (cellsA g As)
  each : ∀ a ∈ As, ArOk a B w
theorem ArsOk.below {g : Int → Int → Int} {As : List ArA} {A : Option Addr} {B C : Nat} {w w' : World} (h : ArsOk g As A B w) (hb : Below C w w') (hC : B ≤ C) : ArsOk g As A B w' :=
  ⟨h.len, h.row.below hb hC, fun a ha => (h.each a ha).below hb hC⟩
theorem cellsA_get (g : Int → Int → Int) : ∀ (As : List ArA) (k : Nat) (a : ArA), As[k]? = some a →
    (cellsA g As)[k * 4]? = some a.1 ∧ (cellsA g As)[k * 4 + 1]? = some (.int .i64 (peakV g a.2).1) ∧ (cellsA g As)[k * 4 + 2]? = some (.int .i64 (peakV g a.2).2) ∧ (cellsA g As)[k * 4 + 3]? = some (.int .i64 (g (peakV g a.2).1 (peakV g a.2).2))
  | [], k, p, h => by simp at h
  | q :: l, 0, p, h => by obtain rfl : q = p := by simpa using h
                          exact ⟨rfl, rfl, rfl, rfl⟩
  | q :: l, k + 1, p, h => by
    have ih := cellsA_get g l k p (by simpa using h)
    have e : ∀ j, (cellsA g (q :: l))[(k + 1) * 4 + j]? = (cellsA g l)[k * 4 + j]? := fun j => by
      rw [show (k + 1) * 4 + j = (k * 4 + j) + 4 by omega]; rfl
    exact ⟨(e 0).trans ih.1, (e 1).trans ih.2.1, (e 2).trans ih.2.2.1, (e 3).trans ih.2.2.2⟩
theorem ArsOk.cell {g : Int → Int → Int} {As : List ArA} {A : Option Addr} {B : Nat} {w : World} (h : ArsOk g As A B w) {k : Nat} (hk : k < As.length) :
    ∃ b o, A = some ⟨b, o, none⟩ ∧ b < B ∧ w.cell? ⟨b, o + k * 4, none⟩ = some As[k].1 ∧ w.cell? ⟨b, o + k * 4 + 1, none⟩ = some (.int .i64 (peakV g As[k].2).1) ∧ w.cell? ⟨b, o + k * 4 + 2, none⟩ = some (.int .i64 (peakV g As[k].2).2) ∧ w.cell? ⟨b, o + k * 4 + 3, none⟩ = some (.int .i64 (g (peakV g As[k].2).1 (peakV g As[k].2).2)) := by
  obtain ⟨b, o, hA, hb, hc⟩ := h.row.2 (by omega)
  obtain ⟨g0, g1, g2, g3⟩ := cellsA_get g As k As[k] (List.getElem?_eq_getElem hk)
  exact ⟨b, o, hA, hb, hc _ _ g0, hc _ _ g1, hc _ _ g2, hc _ _ g3⟩

set_option maxRecDepth 100000 in
set_option maxHeartbeats 1000000 in
theorem sameAreas_eq (g : Int → Int → Int) (As Cs : List ArA) (A C : Option Addr) (ca cb B : Nat) (w : World) (ha : ArsOk g As A B w) (hb : ArsOk g Cs C B w) (he : As.map (·.2) = Cs.map (·.2)) (hB : B ≤ w.heap.size) :
    Calls Tryz.prog 26 #[.slice A As.length ca, .slice C Cs.length cb] w fun e w' => e = .returned (.bool true) ∧ Below w.heap.size w w' := by
  have hlen : Cs.length = As.length := by have := congrArg List.length he; simpa using this.symm
  have HE := Lib.hid he
  clear he
  rw [hlen]
  have hl := ha.len
  have hl' : ((As.length : Int) != (As.length : Int)) = false := by simp
  go_enter Tryz.func26, Tryz.ntmps26
  go_wp2
  go_loopw [5] (fun i wr => ∃ k : Nat, k ≤ As.length ∧ i = .int .i64 k ∧ Below w.heap.size w wr) (fun i _ => As.length - (intOf i).toNat)
  case atStart => exact ⟨0, Nat.zero_le _, rfl, Below.refl _ _⟩
  case round =>
    obtain ⟨k, hk, rfl, hBB⟩ := hrel
    have ha' := ha.below hBB hB
    have hb' := hb.below hBB hB
    have hzb := Below.size hBB
    by_cases hlt : k < As.length
    · have hltc : k < Cs.length := by omega
      obtain ⟨x, o, hA, hx, c0, c1, c2, c3⟩ := ha'.cell hlt
      obtain ⟨y, o2, hC, hy, d0, d1, d2, d3⟩ := hb'.cell hltc
      have ea := ha'.each _ (List.getElem_mem hlt)
      have eb := hb'.each _ (List.getElem_mem hltc)
      have HEQ : As[k].2 = Cs[k].2 := by
        have := congrArg (fun l => l[k]?) HE.out
        simpa [hlt, hltc] using this
      rw [← HEQ] at d1 d2 d3
      obtain ⟨p, hp⟩ : ∃ p, (peakV g As[k].2).1 = p := ⟨_, rfl⟩
      obtain ⟨r, hr⟩ : ∃ p, (peakV g As[k].2).2 = p := ⟨_, rfl⟩
      rw [hp, hr] at c3 d3
      rw [hp] at c1 d1
      rw [hr] at c2 d2
      obtain ⟨v, hv⟩ : ∃ v, g p r = v := ⟨_, rfl⟩
      rw [hv] at c3 d3
      clear hp hr hv
      generalize As[k] = a at *
      generalize Cs[k] = b at *
      subst hA; subst hC
      obtain ⟨va, la⟩ := a
      obtain ⟨vb, lb⟩ := b
      obtain rfl : la = lb := HEQ
      have lx : x < wr.heap.size := by omega
      have ly : y < wr.heap.size := by omega
      have i1 : ((k : Int) < (As.length : Int)) = True := by simp; omega
      dsimp only at c0 d0
      go_wp2_with fail
      go_upto_region 6 with fail
      refine wp_region_w (Gr _) (by kernel_rfl) (Below.refl _ _).drew ?_
      refine wpW_det (t' := ?ct0R71) 0 (by rfl) (by kernel_rfl) (NQ_free _) (by kernel_rfl) ?cw0R71 ?ch0R71 ?ca0R71 (Eq.refl _) ?cH0R71
      case cw0R71 => (go_simp; done)
      case ch0R71 =>
        intro ds w' hS K hK
        have hc := (bcell hS).1
        have hf := (bcell hS).2
        have hz := hS.size
        try simp at hz
        go_simp
        try go_bits
        first
          | exact hK _ hS (Gr.refl _)
          | exact hK _ (by repeat (first | (with_reducible exact Below.refl _ _) | (with_reducible assumption) | ((with_reducible refine Below.setCell ?_ ?_ _); rotate_left; · (first | exact Nat.le_refl _ | (simp; done) | (simp; omega) | omega)) | ((with_reducible refine Below.alloc ?_ ?_ _); rotate_left; · (first | exact Nat.le_refl _ | (simp; done) | (simp; omega) | omega)) | (with_reducible apply Below.drew) | (with_reducible apply below_drewN') | (refine Below.trans ?_ (Below.mono (by assumption) (by first | exact Nat.le_refl _ | (simp; done) | (simp; omega) | omega))) | exact Below.refl _ _ | assumption)) (by repeat (first | (with_reducible exact Below.refl _ _) | (with_reducible assumption) | ((with_reducible refine Below.setCell ?_ ?_ _); rotate_left; · (first | exact Nat.le_refl _ | (simp; done) | (simp; omega) | omega)) | ((with_reducible refine Below.alloc ?_ ?_ _); rotate_left; · (first | exact Nat.le_refl _ | (simp; done) | (simp; omega) | omega)) | (with_reducible apply Below.drew) | (with_reducible apply below_drewN') | (refine Below.trans ?_ (Below.mono (by assumption) (by first | exact Nat.le_refl _ | (simp; done) | (simp; omega) | omega))) | exact Below.refl _ _ | assumption))
      case ca0R71 => (first | (simp [Act.put]; done) | (simp [Act.put, *]; done))
      try dsimp only
      refine wpW_det (t' := ?ct1R71) 1 (by rfl) (by kernel_rfl) (NQ_free _) (by kernel_rfl) ?cw1R71 ?ch1R71 ?ca1R71 (Eq.refl _) ?cH1R71
      case cw1R71 => (go_simp; done)
      case ch1R71 =>
        intro ds w' hS K hK
        have hc := (bcell hS).1
        have hf := (bcell hS).2
        have hz := hS.size
        try simp at hz
        go_simp
        try go_bits
        first
          | exact hK _ hS (Gr.refl _)
          | exact hK _ (by repeat (first | (with_reducible exact Below.refl _ _) | (with_reducible assumption) | ((with_reducible refine Below.setCell ?_ ?_ _); rotate_left; · (first | exact Nat.le_refl _ | (simp; done) | (simp; omega) | omega)) | ((with_reducible refine Below.alloc ?_ ?_ _); rotate_left; · (first | exact Nat.le_refl _ | (simp; done) | (simp; omega) | omega)) | (with_reducible apply Below.drew) | (with_reducible apply below_drewN') | (refine Below.trans ?_ (Below.mono (by assumption) (by first | exact Nat.le_refl _ | (simp; done) | (simp; omega) | omega))) | exact Below.refl _ _ | assumption)) (by repeat (first | (with_reducible exact Below.refl _ _) | (with_reducible assumption) | ((with_reducible refine Below.setCell ?_ ?_ _); rotate_left; · (first | exact Nat.le_refl _ | (simp; done) | (simp; omega) | omega)) | ((with_reducible refine Below.alloc ?_ ?_ _); rotate_left; · (first | exact Nat.le_refl _ | (simp; done) | (simp; omega) | omega)) | (with_reducible apply Below.drew) | (with_reducible apply below_drewN') | (refine Below.trans ?_ (Below.mono (by assumption) (by first | exact Nat.le_refl _ | (simp; done) | (simp; omega) | omega))) | exact Below.refl _ _ | assumption))
      case ca1R71 => (first | (simp [Act.put]; done) | (simp [Act.put, *]; done))
      try dsimp only
      refine wpW_det (t' := ?ct2R71) 2 (by rfl) (by kernel_rfl) (NQ_free _) (by kernel_rfl) ?cw2R71 ?ch2R71 ?ca2R71 (Eq.refl _) ?cH2R71
      case cw2R71 => (go_simp; done)
      case ch2R71 =>
        intro ds w' hS K hK
        have hc := (bcell hS).1
        have hf := (bcell hS).2
        have hz := hS.size
        try simp at hz
        go_simp
        try go_bits
        first
          | exact hK _ hS (Gr.refl _)
          | exact hK _ (by repeat (first | (with_reducible exact Below.refl _ _) | (with_reducible assumption) | ((with_reducible refine Below.setCell ?_ ?_ _); rotate_left; · (first | exact Nat.le_refl _ | (simp; done) | (simp; omega) | omega)) | ((with_reducible refine Below.alloc ?_ ?_ _); rotate_left; · (first | exact Nat.le_refl _ | (simp; done) | (simp; omega) | omega)) | (with_reducible apply Below.drew) | (with_reducible apply below_drewN') | (refine Below.trans ?_ (Below.mono (by assumption) (by first | exact Nat.le_refl _ | (simp; done) | (simp; omega) | omega))) | exact Below.refl _ _ | assumption)) (by repeat (first | (with_reducible exact Below.refl _ _) | (with_reducible assumption) | ((with_reducible refine Below.setCell ?_ ?_ _); rotate_left; · (first | exact Nat.le_refl _ | (simp; done) | (simp; omega) | omega)) | ((with_reducible refine Below.alloc ?_ ?_ _); rotate_left; · (first | exact Nat.le_refl _ | (simp; done) | (simp; omega) | omega)) | (with_reducible apply Below.drew) | (with_reducible apply below_drewN') | (refine Below.trans ?_ (Below.mono (by assumption) (by first | exact Nat.le_refl _ | (simp; done) | (simp; omega) | omega))) | exact Below.refl _ _ | assumption))
      case ca2R71 => (first | (simp [Act.put]; done) | (simp [Act.put, *]; done))
      try dsimp only
      refine wpW_det (t' := ?ct3R71) 3 (by rfl) (by kernel_rfl) (NQ_free _) (by kernel_rfl) ?cw3R71 ?ch3R71 ?ca3R71 (Eq.refl _) ?cH3R71
      case cw3R71 => (go_simp; done)
      case ch3R71 =>
        intro ds w' hS K hK
        have hc := (bcell hS).1
        have hf := (bcell hS).2
        have hz := hS.size
        try simp at hz
        go_simp
        try go_bits
        first
          | exact hK _ hS (Gr.refl _)
          | exact hK _ (by repeat (first | (with_reducible exact Below.refl _ _) | (with_reducible assumption) | ((with_reducible refine Below.setCell ?_ ?_ _); rotate_left; · (first | exact Nat.le_refl _ | (simp; done) | (simp; omega) | omega)) | ((with_reducible refine Below.alloc ?_ ?_ _); rotate_left; · (first | exact Nat.le_refl _ | (simp; done) | (simp; omega) | omega)) | (with_reducible apply Below.drew) | (with_reducible apply below_drewN') | (refine Below.trans ?_ (Below.mono (by assumption) (by first | exact Nat.le_refl _ | (simp; done) | (simp; omega) | omega))) | exact Below.refl _ _ | assumption)) (by repeat (first | (with_reducible exact Below.refl _ _) | (with_reducible assumption) | ((with_reducible refine Below.setCell ?_ ?_ _); rotate_left; · (first | exact Nat.le_refl _ | (simp; done) | (simp; omega) | omega)) | ((with_reducible refine Below.alloc ?_ ?_ _); rotate_left; · (first | exact Nat.le_refl _ | (simp; done) | (simp; omega) | omega)) | (with_reducible apply Below.drew) | (with_reducible apply below_drewN') | (refine Below.trans ?_ (Below.mono (by assumption) (by first | exact Nat.le_refl _ | (simp; done) | (simp; omega) | omega))) | exact Below.refl _ _ | assumption))
      case ca3R71 => (first | (simp [Act.put]; done) | (simp [Act.put, *]; done))
      try dsimp only
      refine wpW_det (t' := ?ct4R71) 4 (by rfl) (by kernel_rfl) (NQ_free _) (by kernel_rfl) ?cw4R71 ?ch4R71 ?ca4R71 (Eq.refl _) ?cH4R71
      case cw4R71 => (go_simp; done)
      case ch4R71 =>
        intro ds w' hS K hK
        have hc := (bcell hS).1
        have hf := (bcell hS).2
        have hz := hS.size
        try simp at hz
        go_simp
        try go_bits
        first
          | exact hK _ hS (Gr.refl _)
          | exact hK _ (by repeat (first | (with_reducible exact Below.refl _ _) | (with_reducible assumption) | ((with_reducible refine Below.setCell ?_ ?_ _); rotate_left; · (first | exact Nat.le_refl _ | (simp; done) | (simp; omega) | omega)) | ((with_reducible refine Below.alloc ?_ ?_ _); rotate_left; · (first | exact Nat.le_refl _ | (simp; done) | (simp; omega) | omega)) | (with_reducible apply Below.drew) | (with_reducible apply below_drewN') | (refine Below.trans ?_ (Below.mono (by assumption) (by first | exact Nat.le_refl _ | (simp; done) | (simp; omega) | omega))) | exact Below.refl _ _ | assumption)) (by repeat (first | (with_reducible exact Below.refl _ _) | (with_reducible assumption) | ((with_reducible refine Below.setCell ?_ ?_ _); rotate_left; · (first | exact Nat.le_refl _ | (simp; done) | (simp; omega) | omega)) | ((with_reducible refine Below.alloc ?_ ?_ _); rotate_left; · (first | exact Nat.le_refl _ | (simp; done) | (simp; omega) | omega)) | (with_reducible apply Below.drew) | (with_reducible apply below_drewN') | (refine Below.trans ?_ (Below.mono (by assumption) (by first | exact Nat.le_refl _ | (simp; done) | (simp; omega) | omega))) | exact Below.refl _ _ | assumption))
      case ca4R71 => (first | (simp [Act.put]; done) | (simp [Act.put, *]; done))
      try dsimp only
      refine wpW_det (t' := ?ct5R71) 5 (by rfl) (by kernel_rfl) (NQ_free _) (by kernel_rfl) ?cw5R71 ?ch5R71 ?ca5R71 (Eq.refl _) ?cH5R71
      case cw5R71 => (go_simp; done)
      case ch5R71 =>
        intro ds w' hS K hK
        have hc := (bcell hS).1
        have hf := (bcell hS).2
        have hz := hS.size
        try simp at hz
        go_simp
        try go_bits
        first
          | exact hK _ hS (Gr.refl _)
          | exact hK _ (by repeat (first | (with_reducible exact Below.refl _ _) | (with_reducible assumption) | ((with_reducible refine Below.setCell ?_ ?_ _); rotate_left; · (first | exact Nat.le_refl _ | (simp; done) | (simp; omega) | omega)) | ((with_reducible refine Below.alloc ?_ ?_ _); rotate_left; · (first | exact Nat.le_refl _ | (simp; done) | (simp; omega) | omega)) | (with_reducible apply Below.drew) | (with_reducible apply below_drewN') | (refine Below.trans ?_ (Below.mono (by assumption) (by first | exact Nat.le_refl _ | (simp; done) | (simp; omega) | omega))) | exact Below.refl _ _ | assumption)) (by repeat (first | (with_reducible exact Below.refl _ _) | (with_reducible assumption) | ((with_reducible refine Below.setCell ?_ ?_ _); rotate_left; · (first | exact Nat.le_refl _ | (simp; done) | (simp; omega) | omega)) | ((with_reducible refine Below.alloc ?_ ?_ _); rotate_left; · (first | exact Nat.le_refl _ | (simp; done) | (simp; omega) | omega)) | (with_reducible apply Below.drew) | (with_reducible apply below_drewN') | (refine Below.trans ?_ (Below.mono (by assumption) (by first | exact Nat.le_refl _ | (simp; done) | (simp; omega) | omega))) | exact Below.refl _ _ | assumption))
      case ca5R71 => (first | (simp [Act.put]; done) | (simp [Act.put, *]; done))
      try dsimp only
      refine wpW_det (t' := ?ct6R71) 6 (by rfl) (by kernel_rfl) (NQ_free _) (by kernel_rfl) ?cw6R71 ?ch6R71 ?ca6R71 (Eq.refl _) ?cH6R71
      case cw6R71 => (go_simp; done)
      case ch6R71 =>
        intro ds w' hS K hK
        have hc := (bcell hS).1
        have hf := (bcell hS).2
        have hz := hS.size
        try simp at hz
        go_simp
        try go_bits
        first
          | exact hK _ hS (Gr.refl _)
          | exact hK _ (by repeat (first | (with_reducible exact Below.refl _ _) | (with_reducible assumption) | ((with_reducible refine Below.setCell ?_ ?_ _); rotate_left; · (first | exact Nat.le_refl _ | (simp; done) | (simp; omega) | omega)) | ((with_reducible refine Below.alloc ?_ ?_ _); rotate_left; · (first | exact Nat.le_refl _ | (simp; done) | (simp; omega) | omega)) | (with_reducible apply Below.drew) | (with_reducible apply below_drewN') | (refine Below.trans ?_ (Below.mono (by assumption) (by first | exact Nat.le_refl _ | (simp; done) | (simp; omega) | omega))) | exact Below.refl _ _ | assumption)) (by repeat (first | (with_reducible exact Below.refl _ _) | (with_reducible assumption) | ((with_reducible refine Below.setCell ?_ ?_ _); rotate_left; · (first | exact Nat.le_refl _ | (simp; done) | (simp; omega) | omega)) | ((with_reducible refine Below.alloc ?_ ?_ _); rotate_left; · (first | exact Nat.le_refl _ | (simp; done) | (simp; omega) | omega)) | (with_reducible apply Below.drew) | (with_reducible apply below_drewN') | (refine Below.trans ?_ (Below.mono (by assumption) (by first | exact Nat.le_refl _ | (simp; done) | (simp; omega) | omega))) | exact Below.refl _ _ | assumption))
      case ca6R71 => (first | (simp [Act.put]; done) | (simp [Act.put, *]; done))
      try dsimp only
      refine wpW_det (t' := ?ct7R71) 7 (by rfl) (by kernel_rfl) (NQ_free _) (by kernel_rfl) ?cw7R71 ?ch7R71 ?ca7R71 (Eq.refl _) ?cH7R71
      case cw7R71 => (go_simp; done)
      case ch7R71 =>
        intro ds w' hS K hK
        have hc := (bcell hS).1
        have hf := (bcell hS).2
        have hz := hS.size
        try simp at hz
        go_simp
        try go_bits
        first
          | exact hK _ hS (Gr.refl _)
          | exact hK _ (by repeat (first | (with_reducible exact Below.refl _ _) | (with_reducible assumption) | ((with_reducible refine Below.setCell ?_ ?_ _); rotate_left; · (first | exact Nat.le_refl _ | (simp; done) | (simp; omega) | omega)) | ((with_reducible refine Below.alloc ?_ ?_ _); rotate_left; · (first | exact Nat.le_refl _ | (simp; done) | (simp; omega) | omega)) | (with_reducible apply Below.drew) | (with_reducible apply below_drewN') | (refine Below.trans ?_ (Below.mono (by assumption) (by first | exact Nat.le_refl _ | (simp; done) | (simp; omega) | omega))) | exact Below.refl _ _ | assumption)) (by repeat (first | (with_reducible exact Below.refl _ _) | (with_reducible assumption) | ((with_reducible refine Below.setCell ?_ ?_ _); rotate_left; · (first | exact Nat.le_refl _ | (simp; done) | (simp; omega) | omega)) | ((with_reducible refine Below.alloc ?_ ?_ _); rotate_left; · (first | exact Nat.le_refl _ | (simp; done) | (simp; omega) | omega)) | (with_reducible apply Below.drew) | (with_reducible apply below_drewN') | (refine Below.trans ?_ (Below.mono (by assumption) (by first | exact Nat.le_refl _ | (simp; done) | (simp; omega) | omega))) | exact Below.refl _ _ | assumption))
      case ca7R71 => (first | (simp [Act.put]; done) | (simp [Act.put, *]; done))
      try dsimp only
      refine wpW_branch [8] (by kernel_rfl) (by simp) ?_
      intro v1 hg_v1 hS_v1
      refine each_cons ?_ each_nil
      refine wpOp_go (by rfl) (Eq.refl _) (by go_simp; done) ?_
      intro K hK
      go_simp
      try simp only [Act.put]
      refine (sameArea_eq (va, la) (vb, la) p r v B _ (ea.below (hS_v1.mono (Below.size hBB)) (by omega)) (eb.below (hS_v1.mono (Below.size hBB)) (by omega)) rfl (by have := Below.size hS_v1; omega)).mono ?_
      rintro e ws ⟨rfl, hBs⟩
      refine hK _ _ (Below.trans hS_v1 (hBs.mono (Below.size hS_v1))) ?_
      clear hK K hBs hg_v1
      refine wpW_det (t' := ?ct9R72) 9 (by rfl) (by kernel_rfl) (NQ_free _) (by kernel_rfl) ?cw9R72 ?ch9R72 ?ca9R72 (Eq.refl _) ?cH9R72
      case cw9R72 => (go_simp; done)
      case ch9R72 =>
        intro ds w' hS K hK
        have hc := (bcell hS).1
        have hf := (bcell hS).2
        have hz := hS.size
        try simp at hz
        go_simp
        try go_bits
        first
          | exact hK _ hS (Gr.refl _)
          | exact hK _ (by repeat (first | (with_reducible exact Below.refl _ _) | (with_reducible assumption) | ((with_reducible refine Below.setCell ?_ ?_ _); rotate_left; · (first | exact Nat.le_refl _ | (simp; done) | (simp; omega) | omega)) | ((with_reducible refine Below.alloc ?_ ?_ _); rotate_left; · (first | exact Nat.le_refl _ | (simp; done) | (simp; omega) | omega)) | (with_reducible apply Below.drew) | (with_reducible apply below_drewN') | (refine Below.trans ?_ (Below.mono (by assumption) (by first | exact Nat.le_refl _ | (simp; done) | (simp; omega) | omega))) | exact Below.refl _ _ | assumption)) (by repeat (first | (with_reducible exact Below.refl _ _) | (with_reducible assumption) | ((with_reducible refine Below.setCell ?_ ?_ _); rotate_left; · (first | exact Nat.le_refl _ | (simp; done) | (simp; omega) | omega)) | ((with_reducible refine Below.alloc ?_ ?_ _); rotate_left; · (first | exact Nat.le_refl _ | (simp; done) | (simp; omega) | omega)) | (with_reducible apply Below.drew) | (with_reducible apply below_drewN') | (refine Below.trans ?_ (Below.mono (by assumption) (by first | exact Nat.le_refl _ | (simp; done) | (simp; omega) | omega))) | exact Below.refl _ _ | assumption))
      case ca9R72 => (first | (simp [Act.put]; done) | (simp [Act.put, *]; done))
      try dsimp only
      refine wpW_end (by kernel_rfl) ?_
      intro w1 hg hS
      unfold NQ
      dsimp only
      have hB1 := hBB.trans (hS.mono hzb)
      clear hg hS
      go_wp2
      refine ⟨⟨k + 1, by omega, by go_num, hB1⟩, by simp [intOf]; omega⟩
    · obtain rfl : k = As.length := by omega
      have i1 : ((As.length : Int) < (As.length : Int)) = False := by simp
      go_wp2
      go_ret
      exact ⟨rfl, hBB⟩
end Go.Proofs.YtidgeagpgllkeaaGreat

namespace Go.Proofs.YtidgeagpgllkeaaGreat
open Go.RowKit

theorem known_in {l : List Sc} {r c : Int} (h : 0 ≤ atV l r c) : ∃ s ∈ l, inB s r c = true := by
  refine Classical.byContradiction fun hn => ?_
  have := (atV_le l r c (-1)).2 ⟨Int.le_refl _, fun s hs hi => absurd ⟨s, hs, hi⟩ hn⟩
  omega
def allC (l : List Sc) : List (Int × Int) := l.flatMap fun s => (List.range 24).flatMap fun (r : Nat) => (List.range 24).map fun (c : Nat) => (s.row + (r : Int), s.col + (c : Int))
theorem allC_len (l : List Sc) : (allC l).length = l.length * 576 := by
  induction l with
  | nil => rfl
  | cons s l ih =>
    unfold allC at *
    rw [List.flatMap_cons, List.length_append, ih]
    have : ((List.range 24).flatMap fun (r : Nat) => (List.range 24).map fun (c : Nat) => (s.row + (r : Int), s.col + (c : Int))).length = 576 := by
      rw [List.length_flatMap]
      simp only [List.length_map, List.length_range]
      rfl
    rw [this, List.length_cons]; omega
theorem Pls.short {l : List Sc} {level : Int} {P : List (Int × Int)} (h : Pls (atV l) level P) (hg : ∀ s ∈ l, ScGood s) (hn : l.length ≤ 6) : P.length ≤ 3456 := by
  have := nodup_len P (allC l) h.nodup fun x hx => by
    obtain ⟨s, hs, hi⟩ := known_in ((abv_iff _ _ _ _).1 ((h.mem x).1 hx)).1
    have g1 := (hg s hs).rows
    have g2 := (hg s hs).cols
    simp [inB, wi] at hi
    unfold allC
    refine List.mem_flatMap.2 ⟨s, hs, List.mem_flatMap.2 ⟨(x.1 - s.row).toNat, List.mem_range.2 (by omega), List.mem_map.2 ⟨(x.2 - s.col).toNat, List.mem_range.2 (by omega), ?_⟩⟩⟩
    exact Prod.ext (by dsimp only; omega) (by dsimp only; omega)
  rw [allC_len] at this
  omega
/-- Areas, as a call found them. -/
structure AreasA (g : Int → Int → Int) (level : Int) (corners : Bool) (P : List (Int × Int)) (As : List ArA) (A : Option Addr) (B : Nat) (W : World) : Prop where
  pls : Pls g level P
  ars : ∃ Bs : List ((Int × Int) × ArA), Bs.map (·.2) = As ∧ ArS g level corners P P.length Bs
  ok : ArsOk g As A B W
theorem AreasA.below {g : Int → Int → Int} {level : Int} {corners : Bool} {P : List (Int × Int)} {As : List ArA} {A : Option Addr} {B C : Nat} {W W' : World} (h : AreasA g level corners P As A B W) (hb : Below C W W') (hC : B ≤ C) : AreasA g level corners P As A B W' :=
  ⟨h.pls, h.ars, h.ok.below hb hC⟩
theorem atV_w64 {l : List Sc} (hg : ∀ s ∈ l, ScGood s) : ∀ x y, 0 ≤ atV l x y → W64 x ∧ W64 y := fun x y h => by
  have := atV_known hg h
  unfold W64
  omega
theorem own_ar {W : World} {base : Nat} {a : ArA} (h : W.ownsRow base 25 2 a.1 a.2.length (cellsC a.2)) : ArOk a W.heap.size W := by
  obtain ⟨A, c, e, hR, hc, _⟩ := own_row2 h
  refine ⟨?_, A, c, e, hR⟩
  rcases h.2 with ⟨_, h0⟩ | ⟨_, cap, _, _, _, _, h1, h2, _⟩
  · omega
  · unfold maxLen at h2; omega
theorem core_good {l L : List Sc} (hc : L.map Sc.core = l.map Sc.core) (hg : ∀ s ∈ l, ScGood s) : ∀ s ∈ L, ScGood s := fun s hs => by
  have hm : s.core ∈ l.map Sc.core := by rw [← hc]; exact List.mem_map_of_mem hs
  obtain ⟨t, ht, e⟩ := List.mem_map.1 hm
  obtain ⟨e1, e2, e3, e4, e5⟩ := core_eq e
  have := hg t ht
  exact ⟨by rw [← e1]; exact this.row, by rw [← e2]; exact this.col, by rw [← e3]; exact this.rows, by rw [← e4]; exact this.cols, by rw [← e3, ← e4, ← e5]; exact this.len, by rw [← e5]; exact this.short, by rw [← e5]; exact this.data⟩
theorem levelE_zero {n : Int} (h : wi n 0 1000000000 = true) : levelE n = 0 := by unfold levelE; rw [h]; rfl

theorem areasCopy (l L : List Sc) (A : Option Addr) (cap B : Nat) (level : Int) (corners : Bool) (w : World) (hc : L.map Sc.core = l.map Sc.core) (hl : ScOk L A B w) (hB : B ≤ w.heap.size) (hg : ∀ s ∈ l, ScGood s) (hn : l.length ≤ 6) (hlv : wi level 0 1000000000 = true) :
    Calls Tryz.prog 22 #[.slice A L.length cap, .agg #[.int .i64 level, .bool corners]] w fun e w' => ∃ (A' : Option Addr) (c' : Nat) (P : List (Int × Int)) (As : List ArA), e = .returned (.tuple #[.slice A' As.length c', .int .i64 0]) ∧ AreasA (atV l) level corners P As A' w'.heap.size w' ∧ Below w.heap.size w w' := by
  have hgL := core_good hc hg
  have hnL := core_len hc
  have hs : (scansE L).2 = 0 := by rw [scansE_good (by omega) hgL]
  have he : scanAskE L level = 0 := (firstE_zero _).2 (fun e he => by
    simp only [List.mem_cons, List.not_mem_nil, or_false] at he
    rcases he with rfl | rfl
    · exact hs
    · exact levelE_zero hlv)
  refine (areas_ok L A cap B level corners w hl hB he (Lib.hid hgL)).mono ?_
  rintro e w' ⟨v, P, Bs, rfl, hP, hS, hrow, hrows, hBw⟩
  rw [atV_core hc] at hP hS hrow
  obtain ⟨A', c', rfl, hR, _, _⟩ := own_row2 hrow
  have hlen : Bs.length ≤ 9223372036854775807 := by
    rcases hrow.2 with ⟨_, h0⟩ | ⟨_, cap, _, _, _, _, h1, h2, _⟩
    · omega
    · unfold maxLen at h2; omega
  refine ⟨A', c', P, Bs.map (·.2), by rw [List.length_map], ⟨hP.pls (atV_w64 hg), ⟨Bs, rfl, hS⟩, ⟨by rw [List.length_map]; exact hlen, by rw [List.length_map]; exact hR, fun a ha => ?_⟩⟩, hBw⟩
  obtain ⟨q, hq, rfl⟩ := List.mem_map.1 ha
  exact own_ar (hrows q hq)
end Go.Proofs.YtidgeagpgllkeaaGreat
