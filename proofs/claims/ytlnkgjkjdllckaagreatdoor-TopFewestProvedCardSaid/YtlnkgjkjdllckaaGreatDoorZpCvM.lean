/- Contracts: the numbers of all set-ups; what set-ups meet of a face. -/
import Derived.Deep.Onto
import Derived.Test.YtlnkgjkjdllckaaGreatDoorZpCvL
namespace Go.Proofs.YtlnkgjkjdllckaaGreatDoor
open Go.RowKit

theorem infoInt : (Tryz.prog.info? 3).map (fun i => (i.zero, i.size, i.bytes)) = some (some (.int .i64 0), 1, 8) := by kernel_rfl
theorem infoPart : (Tryz.prog.info? 89).map (fun i => (i.zero, i.size, i.bytes)) = some (some (.agg #[.int .i64 0, .int .i64 0, .int .i64 0, .int .i64 0, .bool false, .bool false]), 6, 40) := by kernel_rfl

def intsC (l : List Int) : List Value := l.map (Value.int .i64)
def upTo_ (n : Nat) : List Int := (List.range n).map (fun (i : Nat) => (i : Int))
theorem upTo_succ (n : Nat) : upTo_ (n + 1) = upTo_ n ++ [(n : Int)] := by unfold upTo_; rw [List.range_succ, List.map_append]; rfl

set_option maxRecDepth 100000 in
set_option maxHeartbeats 1000000 in
theorem all_any (n : Nat) (A : Option Addr) (c : Nat) (w : World) (hn : n ≤ 1000000) :
    Calls Tryz.prog 24 #[.slice A n c] w fun e w' => ∃ v, e = .returned v ∧ w'.ownsRow w.heap.size 3 1 v n (intsC (upTo_ n)) ∧ Below w.heap.size w w' := by
  obtain ⟨i0, hi, hz0, hz1, hz2⟩ := info_parts infoInt
  go_enter Tryz.func24, Tryz.ntmps24
  go_wp2
  go_loopw [3, 7] (fun v i wr => ∃ k : Nat, k ≤ n ∧ i = .int .i64 k ∧ wr.ownsRow w.heap.size 3 1 v k (intsC (upTo_ k)) ∧ Below w.heap.size w wr) (fun _ i _ => n - (intOf i).toNat)
  case atStart => exact ⟨0, Nat.zero_le _, rfl, ⟨rfl, .inl ⟨rfl, rfl⟩⟩, Below.refl _ _⟩
  case round =>
    obtain ⟨k, hk, rfl, hown, hB⟩ := hrel
    have hsz := Below.size hB
    by_cases hlt : k < n
    · go_wp2_with (at_builtin; refine wpList_append_own _ rfl _ _ 43 rfl w.heap.size 3 i0 (.int .i64 0) 1 8 Tryz.underlying43 hi hz0 hz1 hz2 rfl (by decide) _ _ _ rfl (hown.alloc _) ⟨wr.heap.size, 0, none⟩ 1 1 [.int .i64 (k : Int)] rfl rfl ?c1 ?c2 ?c3 ?c4 ?c5 ?_)
      case c1 => exact cell_one_new _ _ _
      case c2 => simp [Value.oneCell']
      case c3 => unfold maxLen; omega
      case c4 => omega
      case c5 => simp; omega
      intro v' w1 hown' hgrow _
      have hB' : Below w.heap.size w w1 := (hB.alloc hsz _).grown hgrow (by simp; omega) (fun g e => by
        rcases hown.2 with ⟨rfl, _⟩ | ⟨g', cap, cur, rfl, hb, _⟩
        · cases e
        · cases e; exact hb)
      go_wp2
      go_roundw
      case rel => exact ⟨k + 1, by omega, by go_num, by rw [upTo_succ, intsC, List.map_append]; exact hown', hB'⟩
      case measure => simp [intOf]; omega
    · obtain rfl : k = n := by omega
      go_wp2
      go_ret
      exact ⟨_, rfl, hown, hB⟩

/-- The cells of parts, one behind the other. -/
def ptsC (l : List PV) : List Value := l.flatMap fun p => [.int .i64 p.a, .int .i64 p.b, .int .i64 p.c, .int .i64 p.d, .bool p.none, .bool p.up]
theorem ptsC_snoc (l : List PV) (p : PV) : ptsC (l ++ [p]) = ptsC l ++ [.int .i64 p.a, .int .i64 p.b, .int .i64 p.c, .int .i64 p.d, .bool p.none, .bool p.up] := by simp [ptsC, List.flatMap_append]
theorem ptsC_length (l : List PV) : (ptsC l).length = l.length * 6 := by
  induction l with
  | nil => rfl
  | cons p l ih => simp only [ptsC, List.flatMap_cons, List.length_append] at ih ⊢; rw [ih]; simp; omega

theorem ocell {W w1 : World} {row : Option Nat} (hb : W.grownBy w1 row) : (∀ b o, b < W.heap.size → some b ≠ row → w1.cell? ⟨b, o, none⟩ = W.cell? ⟨b, o, none⟩) ∧ (∀ b o, b < W.heap.size → some b ≠ row → w1.frozen? ⟨b, o, none⟩ = W.frozen? ⟨b, o, none⟩) :=
  ⟨fun b _ h hr => World.cell?_of_block (hb.block b h hr), fun b _ h hr => World.frozen?_of_block (hb.block b h hr)⟩
theorem own_ne {w : World} {base e size n g : Nat} {v : Value} {xs : List Value} (h : w.ownsRow base e size v n xs) (hg : g < base ∨ w.heap.size ≤ g) : some g ≠ v.ownBlock := by
  rcases h.2 with ⟨rfl, _⟩ | ⟨g', cap, cur, rfl, hb, hh, _⟩
  · simp [Value.ownBlock]
  · intro e
    have : g = g' := by simpa [Value.ownBlock] using e
    subst this
    have : g < w.heap.size := (Array.getElem?_eq_some_iff.1 hh).1
    omega

theorem own_below {w w' : World} {base e size n : Nat} {v : Value} {xs : List Value} (h : w.ownsRow base e size v n xs) (hb : Below w.heap.size w w') : w'.ownsRow base e size v n xs :=
  h.kept (only_of_below hb none) (by cases hv : v.ownBlock <;> simp)
theorem below_own {a b d : World} {base e size n : Nat} {v : Value} {xs : List Value} (h : Below a.heap.size a b) (hb : a.heap.size ≤ base) (hown : b.ownsRow base e size v n xs) (k : b.grownBy d v.ownBlock) : Below a.heap.size a d :=
  h.grown k (Below.size h) (fun g e => by
    rcases hown.2 with ⟨rfl, _⟩ | ⟨g', cap, cur, rfl, hb', _⟩
    · cases e
    · simp [Value.ownBlock] at e; omega)

/-- What set-ups meet of a face. -/
def partsV (j : Jo) (k : Int) (l : List (ByteArray × Su)) : List PV := l.map fun p => metV j.thick (faceAt j k) p.2
theorem partsV_snoc (j : Jo) (k : Int) (l : List (ByteArray × Su)) (i : Nat) (h : i < l.length) : partsV j k (l.take (i + 1)) = partsV j k (l.take i) ++ [metV j.thick (faceAt j k) l[i].2] := by
  unfold partsV; rw [List.take_succ_eq_append_getElem h, List.map_append]; rfl

theorem sesE_zero : ∀ (l before : List (ByteArray × Su)), sesE before l = 0 → ∀ p ∈ l, setupE p.1 p.2 = 0
  | [], _, _, p, h => by cases h
  | q :: l, before, h0, p, h => by
    unfold sesE at h0
    split at h0
    · rename_i hz
      split at h0
      · simp at h0
      · rcases List.mem_cons.1 h with rfl | h
        · exact hz
        · exact sesE_zero l _ h0 p h
    · rename_i hz; exact absurd h0 hz
theorem setupsE_zero {l : List (ByteArray × Su)} (h : setupsE l = 0) : l.length ≤ 12 ∧ ∀ p ∈ l, setupE p.1 p.2 = 0 := by
  unfold setupsE at h
  split at h
  · simp at h
  · exact ⟨by omega, sesE_zero _ _ h⟩
theorem lim_at {j : Jo} {face : Int} {sn : ByteArray} {s : Su} (h1 : openFaceE j face = 0) (h2 : setupE sn s = 0) : Lim j.thick (faceAt j face) s :=
  lim_of (show askE j face sn s = 0 by unfold askE; rw [if_pos h1]; exact h2)

set_option maxRecDepth 100000 in
set_option maxHeartbeats 2000000 in
theorem faceOf_any (j : Jo) (k : Nat) (l : List (ByteArray × Su)) (A : Option Addr) (c B : Nat) (A' : Option Addr) (c' : Nat) (w : World) (hj : JoOk j A c B w) (hl : SuOk l A' c' B w) (hE : Ends w) (h0 : openFaceE j k = 0) (h1 : setupsE l = 0) :
    Calls Tryz.prog 30 #[.agg (joC j A c), .int .i64 k, .slice A' l.length c'] w fun e w' => ∃ v, e = .returned v ∧ w'.ownsRow w.heap.size 89 6 v l.length (ptsC (partsV j k l)) ∧ Below w.heap.size w w' := by
  obtain ⟨k1, k2, k3, k4, hR, hB⟩ := hj
  obtain ⟨i1, i2, i3, i4, iR, _⟩ := hl
  obtain ⟨i0, hi, hz0, hz1, hz2⟩ := info_parts infoPart
  have hE1 := Lib.hid hE; clear hE
  have hall := setupsE_zero h1
  obtain ⟨k', hkk, hk, hfa⟩ := (openFaceE_zero h0).2
  obtain rfl : k = k' := by omega
  have HF := Lib.hid hfa
  have H0 := Lib.hid h0; have H1 := Lib.hid h1
  have hll := hall.1
  have HA := Lib.hid hall.2
  clear hkk hfa h0 h1 hall
  unfold joC
  go_enter Tryz.func30, Tryz.ntmps30
  go_wp2
  go_loopw [7, 12] (fun v i wr => ∃ m : Nat, m ≤ l.length ∧ i = .int .i64 m ∧ wr.ownsRow (w.heap.size + 1) 89 6 v m (ptsC (partsV j k (l.take m))) ∧ Blk wr w.heap.size 24 (joC j A c) ∧ Below w.heap.size w wr) (fun _ i _ => l.length - (intOf i).toNat)
  case atStart => exact ⟨0, Nat.zero_le _, rfl, ⟨rfl, .inl ⟨rfl, rfl⟩⟩, Blk.new w _ _, Below.alloc (Below.refl _ _) (Nat.le_refl _) _⟩
  case round =>
    obtain ⟨m, hm, rfl, hown, b1, hBB⟩ := hrel
    have hsz := Below.size hBB
    have lb := b1.lt
    by_cases hlt : m < l.length
    · obtain ⟨g, o, hA, hg, c0, c1, c2, c3, c4, c5, c6, c7, c8, c9⟩ := suCells (iR.below hBB hB) hlt
      obtain ⟨g', o', hA', hg', d0, d1, d2, d3, d4⟩ := faceCells (hR.below hBB hB) hk
      subst hA hA'
      have L : Lim j.thick j.fs[k].2 l[m].2 := by rw [← HF.out]; exact lim_at H0.out (HA.out _ (List.getElem_mem hlt))
      obtain ⟨q0, q1, q2, q3⟩ := jo_cells b1
      have hkc1 : (k : Int) < (j.fs.length : Int) := by omega
      have hkc0 : (0 : Int) ≤ (k : Int) := by omega
      have lg' : g' < wr.heap.size := by omega
      have o1 : some w.heap.size ≠ u7.ownBlock := own_ne hown (.inl (by omega))
      have o2 : some g' ≠ u7.ownBlock := own_ne hown (.inl (by omega))
      have o3 : some wr.heap.size ≠ u7.ownBlock := own_ne hown (.inr (Nat.le_refl _))
      go_upto_region 5 with fail
      have hBA := Below.alloc hBB hsz (.cells (suC l[m].1 l[m].2) 34)
      have hownA := hown.alloc (.cells (suC l[m].1 l[m].2) 34)
      unfold suC at hBA hownA
      refine wp_region_w (fun w' => World.grownBy _ w' u7.ownBlock) (by kernel_rfl) (only_drew (World.grownBy.refl _ _)) ?_
      refine wpW_det (t' := ?ct0R5) 0 (by rfl) (by kernel_rfl) (NQ_free _) (by kernel_rfl) ?cw0R5 ?ch0R5 ?ca0R5 (Eq.refl _) ?cH0R5
      case cw0R5 => (go_simp; done)
      case ch0R5 =>
        intro ds w' hS K hK
        have hc := (ocell hS).1
        have hf := (ocell hS).2
        have hz := hS.size
        try simp at hz
        go_simp
        try go_bits
        first
          | exact hK _ hS (Gr.refl _)
          | (go_at_call 37; (with_reducible refine (met_cells _ _ _ _ _ _ _ _ _ _ _ _ _ _ _ _ _ (hE1.out.below (below_own hBA (Nat.le_succ _) hownA hS)) L).mono ?_); rintro e w1 ⟨rfl, hB1⟩; obtain ⟨hc1, hf1⟩ := bcell hB1; have hz1 := hB1.size; (try simp at hz1); exact hK _ (only_trans hS (only_of_below hB1 _)) hB1)
          | fail
      case ca0R5 => (first | (simp [Act.put]; done) | (simp [Act.put, *]; done))
      try dsimp only
      refine wpW_det (t' := ?ct1R5) 1 (by rfl) (by kernel_rfl) (NQ_free _) (by kernel_rfl) ?cw1R5 ?ch1R5 ?ca1R5 (Eq.refl _) ?cH1R5
      case cw1R5 => (go_simp; done)
      case ch1R5 =>
        intro ds w' hS K hK
        have hc := (ocell hS).1
        have hf := (ocell hS).2
        have hz := hS.size
        try simp at hz
        go_simp
        try go_bits
        first
          | exact hK _ hS (Gr.refl _)
          | (go_at_call 37; (with_reducible refine (met_cells _ _ _ _ _ _ _ _ _ _ _ _ _ _ _ _ _ (hE1.out.below (below_own hBA (Nat.le_succ _) hownA hS)) L).mono ?_); rintro e w1 ⟨rfl, hB1⟩; obtain ⟨hc1, hf1⟩ := bcell hB1; have hz1 := hB1.size; (try simp at hz1); exact hK _ (only_trans hS (only_of_below hB1 _)) hB1)
          | fail
      case ca1R5 => (first | (simp [Act.put]; done) | (simp [Act.put, *]; done))
      try dsimp only
      refine wpW_det (t' := ?ct2R5) 2 (by rfl) (by kernel_rfl) (NQ_free _) (by kernel_rfl) ?cw2R5 ?ch2R5 ?ca2R5 (Eq.refl _) ?cH2R5
      case cw2R5 => (go_simp; done)
      case ch2R5 =>
        intro ds w' hS K hK
        have hc := (ocell hS).1
        have hf := (ocell hS).2
        have hz := hS.size
        try simp at hz
        go_simp
        try go_bits
        first
          | exact hK _ hS (Gr.refl _)
          | (go_at_call 37; (with_reducible refine (met_cells _ _ _ _ _ _ _ _ _ _ _ _ _ _ _ _ _ (hE1.out.below (below_own hBA (Nat.le_succ _) hownA hS)) L).mono ?_); rintro e w1 ⟨rfl, hB1⟩; obtain ⟨hc1, hf1⟩ := bcell hB1; have hz1 := hB1.size; (try simp at hz1); exact hK _ (only_trans hS (only_of_below hB1 _)) hB1)
          | fail
      case ca2R5 => (first | (simp [Act.put]; done) | (simp [Act.put, *]; done))
      try dsimp only
      refine wpW_det (t' := ?ct3R5) 3 (by rfl) (by kernel_rfl) (NQ_free _) (by kernel_rfl) ?cw3R5 ?ch3R5 ?ca3R5 (Eq.refl _) ?cH3R5
      case cw3R5 => (go_simp; done)
      case ch3R5 =>
        intro ds w' hS K hK
        have hc := (ocell hS).1
        have hf := (ocell hS).2
        have hz := hS.size
        try simp at hz
        go_simp
        try go_bits
        first
          | exact hK _ hS (Gr.refl _)
          | (go_at_call 37; (with_reducible refine (met_cells _ _ _ _ _ _ _ _ _ _ _ _ _ _ _ _ _ (hE1.out.below (below_own hBA (Nat.le_succ _) hownA hS)) L).mono ?_); rintro e w1 ⟨rfl, hB1⟩; obtain ⟨hc1, hf1⟩ := bcell hB1; have hz1 := hB1.size; (try simp at hz1); exact hK _ (only_trans hS (only_of_below hB1 _)) hB1)
          | fail
      case ca3R5 => (first | (simp [Act.put]; done) | (simp [Act.put, *]; done))
      try dsimp only
      refine wpW_det (t' := ?ct4R5) 4 (by rfl) (by kernel_rfl) (NQ_free _) (by kernel_rfl) ?cw4R5 ?ch4R5 ?ca4R5 (Eq.refl _) ?cH4R5
      case cw4R5 => (go_simp; done)
      case ch4R5 =>
        intro ds w' hS K hK
        have hc := (ocell hS).1
        have hf := (ocell hS).2
        have hz := hS.size
        try simp at hz
        go_simp
        try go_bits
        first
          | exact hK _ hS (Gr.refl _)
          | (go_at_call 37; (with_reducible refine (met_cells _ _ _ _ _ _ _ _ _ _ _ _ _ _ _ _ _ (hE1.out.below (below_own hBA (Nat.le_succ _) hownA hS)) L).mono ?_); rintro e w1 ⟨rfl, hB1⟩; obtain ⟨hc1, hf1⟩ := bcell hB1; have hz1 := hB1.size; (try simp at hz1); exact hK _ (only_trans hS (only_of_below hB1 _)) hB1)
          | fail
      case ca4R5 => (first | (simp [Act.put]; done) | (simp [Act.put, *]; done))
      try dsimp only
      refine wpW_det (t' := ?ct5R5) 5 (by rfl) (by kernel_rfl) (NQ_free _) (by kernel_rfl) ?cw5R5 ?ch5R5 ?ca5R5 (Eq.refl _) ?cH5R5
      case cw5R5 => (go_simp; done)
      case ch5R5 =>
        intro ds w' hS K hK
        have hc := (ocell hS).1
        have hf := (ocell hS).2
        have hz := hS.size
        try simp at hz
        go_simp
        try go_bits
        first
          | exact hK _ hS (Gr.refl _)
          | (go_at_call 37; (with_reducible refine (met_cells _ _ _ _ _ _ _ _ _ _ _ _ _ _ _ _ _ (hE1.out.below (below_own hBA (Nat.le_succ _) hownA hS)) L).mono ?_); rintro e w1 ⟨rfl, hB1⟩; obtain ⟨hc1, hf1⟩ := bcell hB1; have hz1 := hB1.size; (try simp at hz1); exact hK _ (only_trans hS (only_of_below hB1 _)) hB1)
          | fail
      case ca5R5 => (first | (simp [Act.put]; done) | (simp [Act.put, *]; done))
      try dsimp only
      refine wpW_det (t' := ?ct6R5) 6 (by rfl) (by kernel_rfl) (NQ_free _) (by kernel_rfl) ?cw6R5 ?ch6R5 ?ca6R5 (Eq.refl _) ?cH6R5
      case cw6R5 => (go_simp; done)
      case ch6R5 =>
        intro ds w' hS K hK
        have hc := (ocell hS).1
        have hf := (ocell hS).2
        have hz := hS.size
        try simp at hz
        go_simp
        try go_bits
        first
          | exact hK _ hS (Gr.refl _)
          | (go_at_call 37; (with_reducible refine (met_cells _ _ _ _ _ _ _ _ _ _ _ _ _ _ _ _ _ (hE1.out.below (below_own hBA (Nat.le_succ _) hownA hS)) L).mono ?_); rintro e w1 ⟨rfl, hB1⟩; obtain ⟨hc1, hf1⟩ := bcell hB1; have hz1 := hB1.size; (try simp at hz1); exact hK _ (only_trans hS (only_of_below hB1 _)) hB1)
          | fail
      case ca6R5 => (first | (simp [Act.put]; done) | (simp [Act.put, *]; done))
      try dsimp only
      refine wpW_det (t' := ?ct7R5) 7 (by rfl) (by kernel_rfl) (NQ_free _) (by kernel_rfl) ?cw7R5 ?ch7R5 ?ca7R5 (Eq.refl _) ?cH7R5
      case cw7R5 => (go_simp; done)
      case ch7R5 =>
        intro ds w' hS K hK
        have hc := (ocell hS).1
        have hf := (ocell hS).2
        have hz := hS.size
        try simp at hz
        go_simp
        try go_bits
        first
          | exact hK _ hS (Gr.refl _)
          | (go_at_call 37; (with_reducible refine (met_cells _ _ _ _ _ _ _ _ _ _ _ _ _ _ _ _ _ (hE1.out.below (below_own hBA (Nat.le_succ _) hownA hS)) L).mono ?_); rintro e w1 ⟨rfl, hB1⟩; obtain ⟨hc1, hf1⟩ := bcell hB1; have hz1 := hB1.size; (try simp at hz1); exact hK _ (only_trans hS (only_of_below hB1 _)) hB1)
          | fail
      case ca7R5 => (first | (simp [Act.put]; done) | (simp [Act.put, *]; done))
      try dsimp only
      refine wpW_det (t' := ?ct8R5) 8 (by rfl) (by kernel_rfl) (NQ_free _) (by kernel_rfl) ?cw8R5 ?ch8R5 ?ca8R5 (Eq.refl _) ?cH8R5
      case cw8R5 => (go_simp; done)
      case ch8R5 =>
        intro ds w' hS K hK
        have hc := (ocell hS).1
        have hf := (ocell hS).2
        have hz := hS.size
        try simp at hz
        go_simp
        try go_bits
        first
          | exact hK _ hS (Gr.refl _)
          | (go_at_call 37; (with_reducible refine (met_cells _ _ _ _ _ _ _ _ _ _ _ _ _ _ _ _ _ (hE1.out.below (below_own hBA (Nat.le_succ _) hownA hS)) L).mono ?_); rintro e w1 ⟨rfl, hB1⟩; obtain ⟨hc1, hf1⟩ := bcell hB1; have hz1 := hB1.size; (try simp at hz1); exact hK _ (only_trans hS (only_of_below hB1 _)) hB1)
          | fail
      case ca8R5 => (first | (simp [Act.put]; done) | (simp [Act.put, *]; done))
      try dsimp only
      refine wpW_det (t' := ?ct9R5) 9 (by rfl) (by kernel_rfl) (NQ_free _) (by kernel_rfl) ?cw9R5 ?ch9R5 ?ca9R5 (Eq.refl _) ?cH9R5
      case cw9R5 => (go_simp; done)
      case ch9R5 =>
        intro ds w' hS K hK
        have hc := (ocell hS).1
        have hf := (ocell hS).2
        have hz := hS.size
        try simp at hz
        go_simp
        try go_bits
        first
          | exact hK _ hS (Gr.refl _)
          | (go_at_call 37; (with_reducible refine (met_cells _ _ _ _ _ _ _ _ _ _ _ _ _ _ _ _ _ (hE1.out.below (below_own hBA (Nat.le_succ _) hownA hS)) L).mono ?_); rintro e w1 ⟨rfl, hB1⟩; obtain ⟨hc1, hf1⟩ := bcell hB1; have hz1 := hB1.size; (try simp at hz1); exact hK _ (only_trans hS (only_of_below hB1 _)) hB1)
          | fail
      case ca9R5 => (first | (simp [Act.put]; done) | (simp [Act.put, *]; done))
      try dsimp only
      refine wpW_branch [10] (by kernel_rfl) (by simp) ?_
      intro w1 hg1 hS1
      refine each_cons ?_ each_nil
      refine wpOp_go (by rfl) (Eq.refl _) (by go_simp; done) ?_
      intro K hK
      go_simp
      try simp only [Act.put]
      refine hK _ _ (only_alloc hS1 _) ?_
      clear hK K
      have hownB := own_below hownA.drew hg1
      have hownC := hownB.alloc (.cells #[.int .i64 (metV j.thick j.fs[k].2 l[m].2).a, .int .i64 (metV j.thick j.fs[k].2 l[m].2).b, .int .i64 (metV j.thick j.fs[k].2 l[m].2).c, .int .i64 (metV j.thick j.fs[k].2 l[m].2).d, .bool (metV j.thick j.fs[k].2 l[m].2).none, .bool (metV j.thick j.fs[k].2 l[m].2).up] 89)
      refine wpW_branch [11] (by kernel_rfl) (by simp) ?_
      intro w2 hg2 hS2
      have hownD := own_below hownC hg2
      have hsz2 := hS2.size
      simp at hsz2
      refine each_cons ?_ each_nil
      refine wpOp_go (by rfl) (Eq.refl _) (by go_simp; done) ?_
      intro K hK
      refine wp_append_own _ _ _ 77 (by rfl) (w.heap.size + 1) 89 i0 (.agg #[.int .i64 0, .int .i64 0, .int .i64 0, .int .i64 0, .bool false, .bool false]) 6 40 Tryz.underlying77 hi hz0 hz1 hz2 rfl (by decide) _ _ _ (by rfl) hownD ⟨w1.heap.size, 0, none⟩ 1 1
        [.int .i64 (metV j.thick j.fs[k].2 l[m].2).a, .int .i64 (metV j.thick j.fs[k].2 l[m].2).b, .int .i64 (metV j.thick j.fs[k].2 l[m].2).c, .int .i64 (metV j.thick j.fs[k].2 l[m].2).d, .bool (metV j.thick j.fs[k].2 l[m].2).none, .bool (metV j.thick j.fs[k].2 l[m].2).up] (by rfl) rfl ?c1 ?c2 ?c3 ?c4 ?c5 ?_
      case c1 =>
        have hb := Blk.gr (Blk.new w1 89 #[.int .i64 (metV j.thick j.fs[k].2 l[m].2).a, .int .i64 (metV j.thick j.fs[k].2 l[m].2).b, .int .i64 (metV j.thick j.fs[k].2 l[m].2).c, .int .i64 (metV j.thick j.fs[k].2 l[m].2).d, .bool (metV j.thick j.fs[k].2 l[m].2).none, .bool (metV j.thick j.fs[k].2 l[m].2).up]) hg2
        intro i u hu
        rw [Addr.add_lit, Nat.zero_add, hb.cell i, List.getElem?_toArray]
        exact hu
      case c2 => simp [Value.oneCell']
      case c3 => unfold maxLen; omega
      case c4 => omega
      case c5 => omega
      intro v' w3 hown' hgrow _
      refine hK _ _ (only_trans hS2 hgrow) ?_
      clear hK K
      refine wpW_branch [12] (by kernel_rfl) (by simp) ?_
      intro w4 hg4 hS4
      refine each_cons ?_ each_nil
      refine wpOp_go (by rfl) (Eq.refl _) (by go_simp; done) ?_
      intro K hK
      go_simp
      try simp only [Act.put]
      refine hK _ _ hS4 ?_
      clear hK K
      refine wpW_end (by kernel_rfl) ?_
      intro w5 hg5 hS5
      unfold NQ
      dsimp only
      have hownE := own_below (own_below hown' hg4) hg5
      have hBW : Below w.heap.size w w5 := below_own hBA (Nat.le_succ _) hownA hS5
      have hb5 : Blk w5 w.heap.size 24 (joC j (some ⟨g', o', none⟩) c) := (b1.alloc _).grown hS5 o1
      go_wp2
      go_roundw
      case rel => exact ⟨m + 1, by omega, by go_num, by rw [partsV_snoc j k l m hlt, ptsC_snoc, HF.out]; exact hownE, hb5, hBW⟩
      case measure => simp [intOf]; omega
    · obtain rfl : m = l.length := by omega
      go_wp2
      go_ret
      rw [List.take_length] at hown
      exact ⟨_, rfl, hown.mono (Nat.le_succ _), hBB⟩
end Go.Proofs.YtlnkgjkjdllckaaGreatDoor
