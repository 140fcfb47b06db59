/- Contract: the reference's groups of which two are one. -/
import Derived.Test.YtidgeagpgllkeaaGreatFhA
namespace Go.Proofs.YtidgeagpgllkeaaGreat
open Go.RowKit

/-- What is written when the first n groups are told. -/
def unitP (E : List (List Int)) (k n : Nat) : List (List Int) := if n ≤ k then E.take n else (E.take n).eraseIdx k
theorem unitP_zero (E : List (List Int)) (k : Nat) : unitP E k 0 = [] := by simp [unitP]
theorem unitP_same {E : List (List Int)} {k : Nat} (hk : k < E.length) : unitP E k (k + 1) = unitP E k k := by
  unfold unitP
  rw [if_neg (by omega), if_pos (Nat.le_refl _), List.take_succ_eq_append_getElem hk, List.eraseIdx_append_of_length_le (by simp; omega)]
  simp [Nat.min_eq_left (Nat.le_of_lt hk)]
theorem unitP_succ {E : List (List Int)} {k n : Nat} (hn : n < E.length) (hne : n ≠ k) : unitP E k (n + 1) = unitP E k n ++ [E[n]] := by
  unfold unitP
  rw [List.take_succ_eq_append_getElem hn]
  by_cases h : n < k
  · rw [if_pos (by omega), if_pos (by omega)]
  · rw [if_neg (by omega), if_neg (by omega), List.eraseIdx_append_of_lt_length (by simp; omega)]
theorem unitP_all {E : List (List Int)} {k : Nat} (hk : k < E.length) : unitP E k E.length = E.eraseIdx k := by
  unfold unitP; rw [if_neg (by omega), List.take_length]
/-- A list of lists, given to read. -/
structure RwOk (D : List Rw) (A : Option Addr) (B : Nat) (w : World) : Prop where
  row : Row w B 1 A D.length (D.map rwV)
  each : ∀ q ∈ D, Row w B 1 (some ⟨q.b, 0, none⟩) q.ns.length (intsC q.ns)
  cap : ∀ q ∈ D, q.ns.length ≤ q.cap
theorem RwOk.below {D : List Rw} {A : Option Addr} {B C : Nat} {w w' : World} (h : RwOk D A B w) (hb : Below C w w') (hC : B ≤ C) : RwOk D A B w' :=
  ⟨h.row.below hb hC, fun q hq => (h.each q hq).below hb hC, h.cap⟩
theorem RwOk.cell {D : List Rw} {A : Option Addr} {B : Nat} {w : World} (h : RwOk D A B w) {k : Nat} (hk : k < D.length) : ∃ g o, A = some ⟨g, o, none⟩ ∧ g < B ∧ w.cell? ⟨g, o + k, none⟩ = some (rwV D[k]) := by
  obtain ⟨g, o, e, hg, hx⟩ := h.row.2 (by omega)
  exact ⟨g, o, e, hg, hx k _ (by simp [hk])⟩

theorem unit_step {w W1 W5 : World} {O : List Rw} {v v2 : Value} {bv cv : Nat} {zs : List Int} (hown1 : W1.ownsRow w.heap.size 37 1 v O.length (O.map rwV)) (heach1 : ∀ q ∈ O, W1.ownsRow w.heap.size 3 1 (rwV q) q.ns.length (intsC q.ns))
    (own2 : W1.ownsRow w.heap.size 3 1 (.slice (some ⟨bv, 0, none⟩) zs.length cv) zs.length (intsC zs)) (hBB1 : Below w.heap.size w W1) (hown' : W5.ownsRow w.heap.size 37 1 v2 (O.length + 1) (O.map rwV ++ [.slice (some ⟨bv, 0, none⟩) zs.length cv]))
    (hgrow : (W1.alloc (.cells #[.slice (some ⟨bv, 0, none⟩) zs.length cv] 37)).grownBy W5 v.ownBlock) :
    W5.ownsRow w.heap.size 37 1 v2 (O ++ [(⟨bv, cv, zs⟩ : Rw)]).length ((O ++ [(⟨bv, cv, zs⟩ : Rw)]).map rwV) ∧ (∀ q ∈ O ++ [(⟨bv, cv, zs⟩ : Rw)], W5.ownsRow w.heap.size 3 1 (rwV q) q.ns.length (intsC q.ns)) ∧ Below w.heap.size w W5 := by
  have hOo := hown1.alloc (.cells #[.slice (some ⟨bv, 0, none⟩) zs.length cv] 37)
  refine ⟨?_, fun q hq => ?_, below_own (hBB1.alloc (Below.size hBB1) _) (Nat.le_refl _) hOo hgrow⟩
  · rw [List.length_append, List.map_append]; exact hown'
  · rcases List.mem_append.1 hq with hq | hq
    · exact ((heach1 q hq).alloc _).kept hgrow (own_two ((heach1 q hq).alloc _) hOo (by decide))
    · rw [List.mem_singleton] at hq; subst hq
      exact (own2.alloc _).kept hgrow (own_two (own2.alloc _) hOo (by decide))

set_option maxRecDepth 100000 in
set_option maxHeartbeats 4000000 in
theorem united_any (D : List Rw) (A : Option Addr) (c B i k : Nat) (w : World) (hD : RwOk D A B w) (hB : B ≤ w.heap.size) (hik : i < k) (hk : k < D.length) (hlen : D.length ≤ 100) (hns : Hid (∀ q ∈ D, 0 < q.ns.length ∧ q.ns.length ≤ 100)) :
    Calls Tryz.prog 111 #[.slice A D.length c, .int .i64 i, .int .i64 k] w fun e w' => ∃ (v : Value) (O : List Rw), e = .returned v ∧ O.map (·.ns) = unitedV (D.map (·.ns)) i k ∧ w'.ownsRow w.heap.size 37 1 v O.length (O.map rwV) ∧ (∀ q ∈ O, w'.ownsRow w.heap.size 3 1 (rwV q) q.ns.length (intsC q.ns)) ∧ Below w.heap.size w w' := by
  obtain ⟨i0, hi0, hz0, hz1, hz2⟩ := info_parts infoSl
  have hi : i < D.length := by omega
  obtain ⟨M, hM⟩ : ∃ M, mergedV D[i].ns D[k].ns = M := ⟨_, rfl⟩
  obtain ⟨E, hE⟩ : ∃ E, (D.map (·.ns)).set i M = E := ⟨_, rfl⟩
  have hEl : E.length = D.length := by rw [← hE]; simp
  have HU : Hid (unitedV (D.map (·.ns)) i k = unitP E k D.length) := Lib.hid (by
    rw [← hEl, unitP_all (by omega), ← hE, ← hM]; unfold unitedV; simp [hi, hk])
  have HE1 : Hid (∀ n (h : n < D.length), n ≠ i → E[n]'(by omega) = D[n].ns) := Lib.hid (fun n h hne => by subst hE; rw [List.getElem_set_ne (by omega)]; simp)
  have HE2 : Hid (E[i]'(by omega) = M) := Lib.hid (by subst hE; simp)
  have HMM := Lib.hid hM
  have HML : Hid (0 < M.length ∧ M.length ≤ 200) := Lib.hid (by
    have h1 := hns.out _ (List.getElem_mem hi)
    have h2 := hns.out _ (List.getElem_mem hk)
    rw [← hM, mergedV_length]; omega)
  have HS : Hid (∀ n (h : n < D.length), n ≠ k → unitP E k (n + 1) = unitP E k n ++ [E[n]'(by omega)]) := Lib.hid (fun n h hne => unitP_succ (by omega) hne)
  have HSK : Hid (unitP E k (k + 1) = unitP E k k) := Lib.hid (unitP_same (by omega))
  clear hE hM
  go_enter Tryz.func111, Tryz.ntmps111
  go_wp2
  go_loopw [7, 8] (fun s7 s8 wr => ∃ (n : Nat) (O : List Rw) (v : Value), n ≤ D.length ∧ s7 = v ∧ s8 = .int .i64 n ∧ Hid (O.map (·.ns) = unitP E k n) ∧ O.length ≤ n ∧ wr.ownsRow w.heap.size 37 1 v O.length (O.map rwV) ∧ (∀ q ∈ O, wr.ownsRow w.heap.size 3 1 (rwV q) q.ns.length (intsC q.ns)) ∧ Below w.heap.size w wr) (fun _ s8 _ => D.length - (intOf s8).toNat)
  case atStart => exact ⟨0, [], _, Nat.zero_le _, rfl, rfl, Lib.hid (unitP_zero _ _).symm, Nat.le_refl _, World.ownsRow_nil _ _ _ _, by simp, Below.refl _ _⟩
  case round =>
    obtain ⟨n, O, v, hn, rfl, rfl, HO, hOl, hown, heach, hBB⟩ := hrel
    have hzw := Below.size hBB
    by_cases hlt : n < D.length
    · by_cases hnk : n = k
      · subst hnk
        have HX : Hid (O.map (·.ns) = unitP E n (n + 1)) := Lib.hid (by rw [HSK.out]; exact HO.out)
        go_wp2
        exact ⟨⟨n + 1, O, _, by omega, rfl, by go_num, HX, by omega, hown, heach, hBB⟩, by simp [intOf]; omega⟩
      · have hDr := hD.below hBB hB
        obtain ⟨g, o, hA, hg, d0⟩ := hDr.cell hlt
        have hq := List.getElem_mem hlt
        have hrow := hD.each _ hq
        have hcap := hD.cap _ hq
        obtain ⟨hp1, hp2⟩ := hns.out _ hq
        have hnkI : ((n : Int) == (k : Int)) = false := by simp; omega
        unfold rwV at d0
        have HOS := Lib.hid (HS.out n hlt hnk)
        by_cases hni : n = i
        · subst hni
          have hniI : ((n : Int) == (n : Int)) = true := by simp
          obtain ⟨g', o', hA', _, d1⟩ := hDr.cell hk
          obtain ⟨rfl, rfl⟩ : g = g' ∧ o = o' := by rw [hA] at hA'; injection hA' with e; injection e with e1 e2 e3; exact ⟨e1, e2⟩
          have hqk := List.getElem_mem hk
          have hrowk := hD.each _ hqk
          have hcapk := hD.cap _ hqk
          obtain ⟨hk1, hk2⟩ := hns.out _ hqk
          unfold rwV at d1
          rw [HE2.out] at HOS
          obtain ⟨ys, hys⟩ : ∃ ys, D[n].ns = ys := ⟨_, rfl⟩
          obtain ⟨xs, hxs⟩ : ∃ xs, D[k].ns = xs := ⟨_, rfl⟩
          rw [hys] at d0 hrow hcap hp1 hp2 HMM
          rw [hxs] at d1 hrowk hcapk hk1 hk2 HMM
          generalize D[n].b = qb at *
          generalize D[n].cap = qc at *
          generalize D[k].b = kb at *
          generalize D[k].cap = kc at *
          clear hys hxs hA'
          subst hA
          have hgw : g < wr.heap.size := by omega
          have hkI : (k : Int) < (D.length : Int) := by omega
          have hk0 : (0 : Int) ≤ (k : Int) := by omega
          go_wp2_with fail
          refine (copyInts_any ys (some ⟨qb, 0, none⟩) qc B _ (hrow.below hBB hB) (by omega) hcap (by omega) (fun h => by cases h)).mono ?_
          rintro e w0 ⟨vn, rfl, own0, hB0⟩
          have hown0 := own_below hown hB0
          have heach0 := fun q hq => own_below (heach q hq) hB0
          have hBB0 := hBB.trans (hB0.mono hzw)
          have d0' : w0.cell? ⟨g, o + n, none⟩ = some (.slice (some ⟨qb, 0, none⟩) ys.length qc) := by
            have := hB0.cell (p := ⟨g, o + n, none⟩) (show g < wr.heap.size from hgw)
            rw [this]; exact d0
          have d1' : w0.cell? ⟨g, o + k, none⟩ = some (.slice (some ⟨kb, 0, none⟩) xs.length kc) := by
            have := hB0.cell (p := ⟨g, o + k, none⟩) (show g < wr.heap.size from hgw)
            rw [this]; exact d1
          have hgw0 : g < w0.heap.size := by have := Below.size hB0; omega
          have hz0w := Below.size hBB0
          clear own0 hB0 hown heach hBB d0 d1
          go_upto_region 8 with fail
          refine wp_region_w (Gr _) (by kernel_rfl) (Below.refl _ _).drew ?_
          refine wpW_det (t' := ?ct0R53) 0 (by rfl) (by kernel_rfl) (NQ_free _) (by kernel_rfl) ?cw0R53 ?ch0R53 ?ca0R53 (Eq.refl _) ?cH0R53
          case cw0R53 => (go_simp; done)
          case ch0R53 =>
            intro ds w' hS K hK
            have hc := (bcell hS).1
            have hf := (bcell hS).2
            have hz := hS.size
            try simp at hz
            go_simp
            try go_bits
            first
              | exact hK _ hS (Gr.refl _)
              | exact hK _ (by repeat (first | (with_reducible exact Below.refl _ _) | (with_reducible assumption) | ((with_reducible refine Below.setCell ?_ ?_ _); rotate_left; · (first | exact Nat.le_refl _ | (simp; done) | (simp; omega) | omega)) | ((with_reducible refine Below.alloc ?_ ?_ _); rotate_left; · (first | exact Nat.le_refl _ | (simp; done) | (simp; omega) | omega)) | (with_reducible apply Below.drew) | (with_reducible apply below_drewN') | (refine Below.trans ?_ (Below.mono (by assumption) (by first | exact Nat.le_refl _ | (simp; done) | (simp; omega) | omega))) | exact Below.refl _ _ | assumption)) (by repeat (first | (with_reducible exact Below.refl _ _) | (with_reducible assumption) | ((with_reducible refine Below.setCell ?_ ?_ _); rotate_left; · (first | exact Nat.le_refl _ | (simp; done) | (simp; omega) | omega)) | ((with_reducible refine Below.alloc ?_ ?_ _); rotate_left; · (first | exact Nat.le_refl _ | (simp; done) | (simp; omega) | omega)) | (with_reducible apply Below.drew) | (with_reducible apply below_drewN') | (refine Below.trans ?_ (Below.mono (by assumption) (by first | exact Nat.le_refl _ | (simp; done) | (simp; omega) | omega))) | exact Below.refl _ _ | assumption))
          case ca0R53 => (first | (simp [Act.put]; done) | (simp [Act.put, *]; done))
          try dsimp only
          refine wpW_det (t' := ?ct1R53) 1 (by rfl) (by kernel_rfl) (NQ_free _) (by kernel_rfl) ?cw1R53 ?ch1R53 ?ca1R53 (Eq.refl _) ?cH1R53
          case cw1R53 => (go_simp; done)
          case ch1R53 =>
            intro ds w' hS K hK
            have hc := (bcell hS).1
            have hf := (bcell hS).2
            have hz := hS.size
            try simp at hz
            go_simp
            try go_bits
            first
              | exact hK _ hS (Gr.refl _)
              | exact hK _ (by repeat (first | (with_reducible exact Below.refl _ _) | (with_reducible assumption) | ((with_reducible refine Below.setCell ?_ ?_ _); rotate_left; · (first | exact Nat.le_refl _ | (simp; done) | (simp; omega) | omega)) | ((with_reducible refine Below.alloc ?_ ?_ _); rotate_left; · (first | exact Nat.le_refl _ | (simp; done) | (simp; omega) | omega)) | (with_reducible apply Below.drew) | (with_reducible apply below_drewN') | (refine Below.trans ?_ (Below.mono (by assumption) (by first | exact Nat.le_refl _ | (simp; done) | (simp; omega) | omega))) | exact Below.refl _ _ | assumption)) (by repeat (first | (with_reducible exact Below.refl _ _) | (with_reducible assumption) | ((with_reducible refine Below.setCell ?_ ?_ _); rotate_left; · (first | exact Nat.le_refl _ | (simp; done) | (simp; omega) | omega)) | ((with_reducible refine Below.alloc ?_ ?_ _); rotate_left; · (first | exact Nat.le_refl _ | (simp; done) | (simp; omega) | omega)) | (with_reducible apply Below.drew) | (with_reducible apply below_drewN') | (refine Below.trans ?_ (Below.mono (by assumption) (by first | exact Nat.le_refl _ | (simp; done) | (simp; omega) | omega))) | exact Below.refl _ _ | assumption))
          case ca1R53 => (first | (simp [Act.put]; done) | (simp [Act.put, *]; done))
          try dsimp only
          refine wpW_det (t' := ?ct2R53) 2 (by rfl) (by kernel_rfl) (NQ_free _) (by kernel_rfl) ?cw2R53 ?ch2R53 ?ca2R53 (Eq.refl _) ?cH2R53
          case cw2R53 => (go_simp; done)
          case ch2R53 =>
            intro ds w' hS K hK
            have hc := (bcell hS).1
            have hf := (bcell hS).2
            have hz := hS.size
            try simp at hz
            go_simp
            try go_bits
            first
              | exact hK _ hS (Gr.refl _)
              | exact hK _ (by repeat (first | (with_reducible exact Below.refl _ _) | (with_reducible assumption) | ((with_reducible refine Below.setCell ?_ ?_ _); rotate_left; · (first | exact Nat.le_refl _ | (simp; done) | (simp; omega) | omega)) | ((with_reducible refine Below.alloc ?_ ?_ _); rotate_left; · (first | exact Nat.le_refl _ | (simp; done) | (simp; omega) | omega)) | (with_reducible apply Below.drew) | (with_reducible apply below_drewN') | (refine Below.trans ?_ (Below.mono (by assumption) (by first | exact Nat.le_refl _ | (simp; done) | (simp; omega) | omega))) | exact Below.refl _ _ | assumption)) (by repeat (first | (with_reducible exact Below.refl _ _) | (with_reducible assumption) | ((with_reducible refine Below.setCell ?_ ?_ _); rotate_left; · (first | exact Nat.le_refl _ | (simp; done) | (simp; omega) | omega)) | ((with_reducible refine Below.alloc ?_ ?_ _); rotate_left; · (first | exact Nat.le_refl _ | (simp; done) | (simp; omega) | omega)) | (with_reducible apply Below.drew) | (with_reducible apply below_drewN') | (refine Below.trans ?_ (Below.mono (by assumption) (by first | exact Nat.le_refl _ | (simp; done) | (simp; omega) | omega))) | exact Below.refl _ _ | assumption))
          case ca2R53 => (first | (simp [Act.put]; done) | (simp [Act.put, *]; done))
          try dsimp only
          refine wpW_det (t' := ?ct3R53) 3 (by rfl) (by kernel_rfl) (NQ_free _) (by kernel_rfl) ?cw3R53 ?ch3R53 ?ca3R53 (Eq.refl _) ?cH3R53
          case cw3R53 => (go_simp; done)
          case ch3R53 =>
            intro ds w' hS K hK
            have hc := (bcell hS).1
            have hf := (bcell hS).2
            have hz := hS.size
            try simp at hz
            go_simp
            try go_bits
            first
              | exact hK _ hS (Gr.refl _)
              | exact hK _ (by repeat (first | (with_reducible exact Below.refl _ _) | (with_reducible assumption) | ((with_reducible refine Below.setCell ?_ ?_ _); rotate_left; · (first | exact Nat.le_refl _ | (simp; done) | (simp; omega) | omega)) | ((with_reducible refine Below.alloc ?_ ?_ _); rotate_left; · (first | exact Nat.le_refl _ | (simp; done) | (simp; omega) | omega)) | (with_reducible apply Below.drew) | (with_reducible apply below_drewN') | (refine Below.trans ?_ (Below.mono (by assumption) (by first | exact Nat.le_refl _ | (simp; done) | (simp; omega) | omega))) | exact Below.refl _ _ | assumption)) (by repeat (first | (with_reducible exact Below.refl _ _) | (with_reducible assumption) | ((with_reducible refine Below.setCell ?_ ?_ _); rotate_left; · (first | exact Nat.le_refl _ | (simp; done) | (simp; omega) | omega)) | ((with_reducible refine Below.alloc ?_ ?_ _); rotate_left; · (first | exact Nat.le_refl _ | (simp; done) | (simp; omega) | omega)) | (with_reducible apply Below.drew) | (with_reducible apply below_drewN') | (refine Below.trans ?_ (Below.mono (by assumption) (by first | exact Nat.le_refl _ | (simp; done) | (simp; omega) | omega))) | exact Below.refl _ _ | assumption))
          case ca3R53 => (first | (simp [Act.put]; done) | (simp [Act.put, *]; done))
          try dsimp only
          refine wpW_det (t' := ?ct4R53) 4 (by rfl) (by kernel_rfl) (NQ_free _) (by kernel_rfl) ?cw4R53 ?ch4R53 ?ca4R53 (Eq.refl _) ?cH4R53
          case cw4R53 => (go_simp; done)
          case ch4R53 =>
            intro ds w' hS K hK
            have hc := (bcell hS).1
            have hf := (bcell hS).2
            have hz := hS.size
            try simp at hz
            go_simp
            try go_bits
            first
              | exact hK _ hS (Gr.refl _)
              | exact hK _ (by repeat (first | (with_reducible exact Below.refl _ _) | (with_reducible assumption) | ((with_reducible refine Below.setCell ?_ ?_ _); rotate_left; · (first | exact Nat.le_refl _ | (simp; done) | (simp; omega) | omega)) | ((with_reducible refine Below.alloc ?_ ?_ _); rotate_left; · (first | exact Nat.le_refl _ | (simp; done) | (simp; omega) | omega)) | (with_reducible apply Below.drew) | (with_reducible apply below_drewN') | (refine Below.trans ?_ (Below.mono (by assumption) (by first | exact Nat.le_refl _ | (simp; done) | (simp; omega) | omega))) | exact Below.refl _ _ | assumption)) (by repeat (first | (with_reducible exact Below.refl _ _) | (with_reducible assumption) | ((with_reducible refine Below.setCell ?_ ?_ _); rotate_left; · (first | exact Nat.le_refl _ | (simp; done) | (simp; omega) | omega)) | ((with_reducible refine Below.alloc ?_ ?_ _); rotate_left; · (first | exact Nat.le_refl _ | (simp; done) | (simp; omega) | omega)) | (with_reducible apply Below.drew) | (with_reducible apply below_drewN') | (refine Below.trans ?_ (Below.mono (by assumption) (by first | exact Nat.le_refl _ | (simp; done) | (simp; omega) | omega))) | exact Below.refl _ _ | assumption))
          case ca4R53 => (first | (simp [Act.put]; done) | (simp [Act.put, *]; done))
          try dsimp only
          refine wpW_det (t' := ?ct5R53) 5 (by rfl) (by kernel_rfl) (NQ_free _) (by kernel_rfl) ?cw5R53 ?ch5R53 ?ca5R53 (Eq.refl _) ?cH5R53
          case cw5R53 => (go_simp; done)
          case ch5R53 =>
            intro ds w' hS K hK
            have hc := (bcell hS).1
            have hf := (bcell hS).2
            have hz := hS.size
            try simp at hz
            go_simp
            try go_bits
            first
              | exact hK _ hS (Gr.refl _)
              | exact hK _ (by repeat (first | (with_reducible exact Below.refl _ _) | (with_reducible assumption) | ((with_reducible refine Below.setCell ?_ ?_ _); rotate_left; · (first | exact Nat.le_refl _ | (simp; done) | (simp; omega) | omega)) | ((with_reducible refine Below.alloc ?_ ?_ _); rotate_left; · (first | exact Nat.le_refl _ | (simp; done) | (simp; omega) | omega)) | (with_reducible apply Below.drew) | (with_reducible apply below_drewN') | (refine Below.trans ?_ (Below.mono (by assumption) (by first | exact Nat.le_refl _ | (simp; done) | (simp; omega) | omega))) | exact Below.refl _ _ | assumption)) (by repeat (first | (with_reducible exact Below.refl _ _) | (with_reducible assumption) | ((with_reducible refine Below.setCell ?_ ?_ _); rotate_left; · (first | exact Nat.le_refl _ | (simp; done) | (simp; omega) | omega)) | ((with_reducible refine Below.alloc ?_ ?_ _); rotate_left; · (first | exact Nat.le_refl _ | (simp; done) | (simp; omega) | omega)) | (with_reducible apply Below.drew) | (with_reducible apply below_drewN') | (refine Below.trans ?_ (Below.mono (by assumption) (by first | exact Nat.le_refl _ | (simp; done) | (simp; omega) | omega))) | exact Below.refl _ _ | assumption))
          case ca5R53 => (first | (simp [Act.put]; done) | (simp [Act.put, *]; done))
          try dsimp only
          refine wpW_det (t' := ?ct6R53) 6 (by rfl) (by kernel_rfl) (NQ_free _) (by kernel_rfl) ?cw6R53 ?ch6R53 ?ca6R53 (Eq.refl _) ?cH6R53
          case cw6R53 => (go_simp; done)
          case ch6R53 =>
            intro ds w' hS K hK
            have hc := (bcell hS).1
            have hf := (bcell hS).2
            have hz := hS.size
            try simp at hz
            go_simp
            try go_bits
            first
              | exact hK _ hS (Gr.refl _)
              | exact hK _ (by repeat (first | (with_reducible exact Below.refl _ _) | (with_reducible assumption) | ((with_reducible refine Below.setCell ?_ ?_ _); rotate_left; · (first | exact Nat.le_refl _ | (simp; done) | (simp; omega) | omega)) | ((with_reducible refine Below.alloc ?_ ?_ _); rotate_left; · (first | exact Nat.le_refl _ | (simp; done) | (simp; omega) | omega)) | (with_reducible apply Below.drew) | (with_reducible apply below_drewN') | (refine Below.trans ?_ (Below.mono (by assumption) (by first | exact Nat.le_refl _ | (simp; done) | (simp; omega) | omega))) | exact Below.refl _ _ | assumption)) (by repeat (first | (with_reducible exact Below.refl _ _) | (with_reducible assumption) | ((with_reducible refine Below.setCell ?_ ?_ _); rotate_left; · (first | exact Nat.le_refl _ | (simp; done) | (simp; omega) | omega)) | ((with_reducible refine Below.alloc ?_ ?_ _); rotate_left; · (first | exact Nat.le_refl _ | (simp; done) | (simp; omega) | omega)) | (with_reducible apply Below.drew) | (with_reducible apply below_drewN') | (refine Below.trans ?_ (Below.mono (by assumption) (by first | exact Nat.le_refl _ | (simp; done) | (simp; omega) | omega))) | exact Below.refl _ _ | assumption))
          case ca6R53 => (first | (simp [Act.put]; done) | (simp [Act.put, *]; done))
          try dsimp only
          refine wpW_det (t' := ?ct7R53) 7 (by rfl) (by kernel_rfl) (NQ_free _) (by kernel_rfl) ?cw7R53 ?ch7R53 ?ca7R53 (Eq.refl _) ?cH7R53
          case cw7R53 => (go_simp; done)
          case ch7R53 =>
            intro ds w' hS K hK
            have hc := (bcell hS).1
            have hf := (bcell hS).2
            have hz := hS.size
            try simp at hz
            go_simp
            try go_bits
            first
              | exact hK _ hS (Gr.refl _)
              | exact hK _ (by repeat (first | (with_reducible exact Below.refl _ _) | (with_reducible assumption) | ((with_reducible refine Below.setCell ?_ ?_ _); rotate_left; · (first | exact Nat.le_refl _ | (simp; done) | (simp; omega) | omega)) | ((with_reducible refine Below.alloc ?_ ?_ _); rotate_left; · (first | exact Nat.le_refl _ | (simp; done) | (simp; omega) | omega)) | (with_reducible apply Below.drew) | (with_reducible apply below_drewN') | (refine Below.trans ?_ (Below.mono (by assumption) (by first | exact Nat.le_refl _ | (simp; done) | (simp; omega) | omega))) | exact Below.refl _ _ | assumption)) (by repeat (first | (with_reducible exact Below.refl _ _) | (with_reducible assumption) | ((with_reducible refine Below.setCell ?_ ?_ _); rotate_left; · (first | exact Nat.le_refl _ | (simp; done) | (simp; omega) | omega)) | ((with_reducible refine Below.alloc ?_ ?_ _); rotate_left; · (first | exact Nat.le_refl _ | (simp; done) | (simp; omega) | omega)) | (with_reducible apply Below.drew) | (with_reducible apply below_drewN') | (refine Below.trans ?_ (Below.mono (by assumption) (by first | exact Nat.le_refl _ | (simp; done) | (simp; omega) | omega))) | exact Below.refl _ _ | assumption))
          case ca7R53 => (first | (simp [Act.put]; done) | (simp [Act.put, *]; done))
          try dsimp only
          refine wpW_branch [8] (by kernel_rfl) (by simp) ?_
          intro v1 hg_v1 hS_v1
          refine each_cons ?_ each_nil
          refine wpOp_go (by rfl) (Eq.refl _) (by go_simp; done) ?_
          intro K hK
          go_simp
          try simp only [Act.put]
          have hBv := hBB0.trans (hS_v1.mono hz0w)
          refine (merged_any ys xs (some ⟨qb, 0, none⟩) (some ⟨kb, 0, none⟩) qc kc B _ (hrow.below hBv hB) (hrowk.below hBv hB) (by have := Below.size hBv; omega) hcap hcapk (by omega)).mono ?_
          rintro e ws ⟨vm, rfl, ownm, hBs⟩
          have HMl : Hid (mergedV ys xs = M) := HMM
          rw [HMM.out, show ys.length + xs.length = M.length by rw [← HMM.out, mergedV_length]] at ownm
          obtain ⟨bv, cv, rfl, _, _⟩ := ownm.form HML.out.1
          have own2 := ownm.mono (base' := w.heap.size) (Below.size hBv)
          refine hK _ _ (Below.trans hS_v1 (hBs.mono (Below.size hS_v1))) ?_
          clear hK K ownm hBs hBv hg_v1
          refine wpW_det (t' := ?ct9R54) 9 (by rfl) (by kernel_rfl) (NQ_free _) (by kernel_rfl) ?cw9R54 ?ch9R54 ?ca9R54 (Eq.refl _) ?cH9R54
          case cw9R54 => (go_simp; done)
          case ch9R54 =>
            intro ds w' hS K hK
            have hc := (bcell hS).1
            have hf := (bcell hS).2
            have hz := hS.size
            try simp at hz
            go_simp
            try go_bits
            first
              | exact hK _ hS (Gr.refl _)
              | exact hK _ (by repeat (first | (with_reducible exact Below.refl _ _) | (with_reducible assumption) | ((with_reducible refine Below.setCell ?_ ?_ _); rotate_left; · (first | exact Nat.le_refl _ | (simp; done) | (simp; omega) | omega)) | ((with_reducible refine Below.alloc ?_ ?_ _); rotate_left; · (first | exact Nat.le_refl _ | (simp; done) | (simp; omega) | omega)) | (with_reducible apply Below.drew) | (with_reducible apply below_drewN') | (refine Below.trans ?_ (Below.mono (by assumption) (by first | exact Nat.le_refl _ | (simp; done) | (simp; omega) | omega))) | exact Below.refl _ _ | assumption)) (by repeat (first | (with_reducible exact Below.refl _ _) | (with_reducible assumption) | ((with_reducible refine Below.setCell ?_ ?_ _); rotate_left; · (first | exact Nat.le_refl _ | (simp; done) | (simp; omega) | omega)) | ((with_reducible refine Below.alloc ?_ ?_ _); rotate_left; · (first | exact Nat.le_refl _ | (simp; done) | (simp; omega) | omega)) | (with_reducible apply Below.drew) | (with_reducible apply below_drewN') | (refine Below.trans ?_ (Below.mono (by assumption) (by first | exact Nat.le_refl _ | (simp; done) | (simp; omega) | omega))) | exact Below.refl _ _ | assumption))
          case ca9R54 => (first | (simp [Act.put]; done) | (simp [Act.put, *]; done))
          try dsimp only
          refine wpW_end (by kernel_rfl) ?_
          intro w1 hg hS
          unfold NQ
          dsimp only
          replace own2 := own_below own2 hg
          have hown1 := own_below hown0 hS
          have heach1 := fun q hq => own_below (heach0 q hq) hS
          have hBB1 := hBB0.trans (hS.mono hz0w)
          have hML2 := HML.out.2
          have hOo := hown1.alloc (.cells #[.slice (some ⟨bv, 0, none⟩) M.length cv] 37)
          have hzz1 := Below.size hBB1
          clear hown0 heach0 hBB0 hg hS d0' d1'
          go_wp2_with (at_builtin; refine wpList_append_own _ rfl _ _ 64 rfl w.heap.size 37 i0 _ 1 24 Tryz.underlying64 hi0 hz0 hz1 hz2 rfl (by decide) _ _ _ rfl hOo ⟨w1.heap.size, 0, none⟩ 1 1 [.slice (some ⟨bv, 0, none⟩) M.length cv] rfl rfl (cell_one_new _ _ _) (by simp [Value.oneCell']) (by unfold maxLen; omega) (by omega) (by first | omega | (simp; done) | (simp; omega)) ?_; intro v2 W5 hown' hgrow _)
          obtain ⟨u1, u2, u3⟩ := unit_step hown1 heach1 own2 hBB1 hown' hgrow
          exact ⟨⟨n + 1, O ++ [⟨bv, cv, M⟩], v2, by omega, rfl, by go_num, Lib.hid (by rw [List.map_append, HO.out, HOS.out]; rfl), by simp; omega, u1, u2, u3⟩, by simp [intOf]; omega⟩
        · have hniI : ((n : Int) == (i : Int)) = false := by simp; omega
          have HEN : Hid (E[n]'(by omega) = D[n].ns) := Lib.hid (HE1.out n hlt hni)
          rw [HEN.out] at HOS
          obtain ⟨zs, hzs⟩ : ∃ zs, D[n].ns = zs := ⟨_, rfl⟩
          rw [hzs] at d0 hrow hcap hp1 hp2 HOS
          generalize D[n].b = qb at *
          generalize D[n].cap = qc at *
          clear hzs HEN
          subst hA
          have hgw : g < wr.heap.size := by omega
          go_wp2_with fail
          refine (copyInts_any zs (some ⟨qb, 0, none⟩) qc B _ (hrow.below hBB hB) (by omega) hcap (by omega) (fun h => by cases h)).mono ?_
          rintro e w1 ⟨vn, rfl, own1, hB1⟩
          obtain ⟨bv, cv, rfl, _, _⟩ := own1.form hp1
          have own2 := own1.mono (base' := w.heap.size) hzw
          have hown1 := own_below hown hB1
          have heach1 := fun q hq => own_below (heach q hq) hB1
          have hBB1 := hBB.trans (hB1.mono hzw)
          have hOo := hown1.alloc (.cells #[.slice (some ⟨bv, 0, none⟩) zs.length cv] 37)
          have hzz1 := Below.size hBB1
          clear own1 hB1 hown heach hBB
          go_wp2_with (at_builtin; refine wpList_append_own _ rfl _ _ 64 rfl w.heap.size 37 i0 _ 1 24 Tryz.underlying64 hi0 hz0 hz1 hz2 rfl (by decide) _ _ _ rfl hOo ⟨w1.heap.size, 0, none⟩ 1 1 [.slice (some ⟨bv, 0, none⟩) zs.length cv] rfl rfl (cell_one_new _ _ _) (by simp [Value.oneCell']) (by unfold maxLen; omega) (by omega) (by first | omega | (simp; done) | (simp; omega)) ?_; intro v2 W5 hown' hgrow _)
          obtain ⟨u1, u2, u3⟩ := unit_step hown1 heach1 own2 hBB1 hown' hgrow
          exact ⟨⟨n + 1, O ++ [⟨bv, cv, zs⟩], v2, by omega, rfl, by go_num, Lib.hid (by rw [List.map_append, HO.out, HOS.out]; rfl), by simp; omega, u1, u2, u3⟩, by simp [intOf]; omega⟩
    · obtain rfl : n = D.length := by omega
      go_wp2
      go_ret
      exact ⟨_, O, rfl, by rw [HU.out]; exact HO.out, hown, heach, hBB⟩
end Go.Proofs.YtidgeagpgllkeaaGreat
