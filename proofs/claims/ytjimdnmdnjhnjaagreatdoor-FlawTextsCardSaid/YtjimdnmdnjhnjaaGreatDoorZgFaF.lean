/- Contract: scans, joined to a map. -/
import Derived.Test.YtjimdnmdnjhnjaaGreatDoorZgFaE
import Derived.Test.YtjimdnmdnjhnjaaGreatDoorZgFaM
namespace Go.Proofs.YtjimdnmdnjhnjaaGreatDoor
open Go.RowKit

/-- Whether a scan has a cell, and its amplitude there. -/
def inB (s : Sc) (r c : Int) : Bool := wi (r - s.row) 0 (s.rows - 1) && wi (c - s.col) 0 (s.cols - 1)
def datV (s : Sc) (r c : Int) : Int := (s.data[((r - s.row) * s.cols + (c - s.col)).toNat]?).getD 0
def atS (b : Int) (s : Sc) (r c : Int) : Int := if inB s r c then max b (datV s r c) else b
/-- The amplitude of a cell, or -1. -/
def atV (l : List Sc) (r c : Int) : Int := l.foldl (fun b s => atS b s r c) (-1)
theorem atV_snoc (l : List Sc) (s : Sc) (r c : Int) : atV (l ++ [s]) r c = atS (atV l r c) s r c := by simp [atV]
/-- The same, the last scan being told up to its first i cells. -/
def atP (l : List Sc) (s : Sc) (i : Nat) (r c : Int) : Int := if inB s r c ∧ (r - s.row) * s.cols + (c - s.col) < i then max (atV l r c) (datV s r c) else atV l r c
theorem atP_zero (l : List Sc) (s : Sc) (hc : 1 ≤ s.cols) : atP l s 0 = atV l := by
  funext r c
  unfold atP
  rw [if_neg]
  rintro ⟨h1, h2⟩
  simp [inB, wi] at h1
  have := Int.mul_nonneg (show 0 ≤ r - s.row by omega) (show 0 ≤ s.cols by omega)
  omega
theorem atP_all (l : List Sc) (s : Sc) (hc : 1 ≤ s.cols) (hs : (s.data.length : Int) = s.rows * s.cols) : atP l s s.data.length = atV (l ++ [s]) := by
  funext r c
  rw [atV_snoc]
  unfold atP atS
  by_cases h : inB s r c = true
  · have hlt : (r - s.row) * s.cols + (c - s.col) < s.data.length := by
      have h0 := h
      simp [inB, wi] at h0
      have h1 : (r - s.row) * s.cols ≤ (s.rows - 1) * s.cols := Int.mul_le_mul_of_nonneg_right (by omega) (by omega)
      have h2 : (s.rows - 1) * s.cols = s.rows * s.cols - s.cols := by rw [Int.sub_mul]; omega
      omega
    rw [if_pos h, if_pos ⟨h, hlt⟩]
  · rw [if_neg h, if_neg (fun hh => h hh.1)]
theorem idx_div (s : Sc) (i : Nat) (_hc : 1 ≤ s.cols) : ((s.row + (i : Int) / s.cols) - s.row) * s.cols + ((s.col + (i : Int) % s.cols) - s.col) = i := by
  have := Int.mul_ediv_add_emod (i : Int) s.cols
  rw [show (s.row + (i : Int) / s.cols) - s.row = (i : Int) / s.cols by omega, show (s.col + (i : Int) % s.cols) - s.col = (i : Int) % s.cols by omega, Int.mul_comm]
  exact this
theorem idx_in (s : Sc) (i : Nat) (hc : 1 ≤ s.cols) (hs : (s.data.length : Int) = s.rows * s.cols) (hi : i < s.data.length) : inB s (s.row + (i : Int) / s.cols) (s.col + (i : Int) % s.cols) = true := by
  have h1 := Int.emod_nonneg (i : Int) (show s.cols ≠ 0 by omega)
  have h2 := Int.emod_lt_of_pos (i : Int) (show 0 < s.cols by omega)
  have h3 : 0 ≤ (i : Int) / s.cols := Int.ediv_nonneg (by omega) (by omega)
  have h4 : (i : Int) / s.cols < s.rows := Int.ediv_lt_of_lt_mul (by omega) (by omega)
  simp [inB, wi]
  omega
theorem idx_inj {s : Sc} {r c r' c' : Int} (h : inB s r c = true) (h' : inB s r' c' = true) (e : (r - s.row) * s.cols + (c - s.col) = (r' - s.row) * s.cols + (c' - s.col)) : r = r' ∧ c = c' := by
  simp [inB, wi] at h h'
  have hc : 0 < s.cols := by omega
  have e1 : (r - s.row) = (r' - s.row) := by
    have a := Int.mul_ediv_add_emod ((r - s.row) * s.cols + (c - s.col)) s.cols
    have q : ∀ x y : Int, 0 ≤ y → y < s.cols → (x * s.cols + y) / s.cols = x := fun x y h0 h1 => by
      rw [Int.add_comm, Int.add_mul_ediv_right _ _ (by omega), Int.ediv_eq_zero_of_lt h0 h1]; omega
    have q1 := q (r - s.row) (c - s.col) (by omega) (by omega)
    have q2 := q (r' - s.row) (c' - s.col) (by omega) (by omega)
    rw [e, q2] at q1
    exact q1.symm
  rw [e1] at e
  omega
theorem atP_succ (l : List Sc) (s : Sc) (i : Nat) (hc : 1 ≤ s.cols) (hs : (s.data.length : Int) = s.rows * s.cols) (hi : i < s.data.length) :
    atP l s (i + 1) = upd (atP l s i) (s.row + (i : Int) / s.cols) (s.col + (i : Int) % s.cols) (max (atV l (s.row + (i : Int) / s.cols) (s.col + (i : Int) % s.cols)) s.data[i]) := by
  funext r c
  have hin := idx_in s i hc hs hi
  have hdv := idx_div s i hc
  unfold upd
  by_cases e : r = s.row + (i : Int) / s.cols ∧ c = s.col + (i : Int) % s.cols
  · rw [if_pos e]
    obtain ⟨rfl, rfl⟩ := e
    unfold atP datV
    rw [if_pos ⟨hin, by rw [hdv]; omega⟩, hdv, Int.toNat_natCast, List.getElem?_eq_getElem hi]
    rfl
  · rw [if_neg e]
    unfold atP
    by_cases h : inB s r c = true ∧ (r - s.row) * s.cols + (c - s.col) < i
    · rw [if_pos h, if_pos ⟨h.1, by omega⟩]
    · rw [if_neg h, if_neg]
      rintro ⟨h1, h2⟩
      refine h ⟨h1, ?_⟩
      by_cases h3 : (r - s.row) * s.cols + (c - s.col) = i
      · exact absurd (idx_inj h1 hin (h3.trans hdv.symm)) e
      · push_cast at h2; omega
theorem atP_at (l : List Sc) (s : Sc) (i : Nat) (hc : 1 ≤ s.cols) : atP l s i (s.row + (i : Int) / s.cols) (s.col + (i : Int) % s.cols) = atV l (s.row + (i : Int) / s.cols) (s.col + (i : Int) % s.cols) := by
  unfold atP
  rw [if_neg]
  rintro ⟨_, h⟩
  rw [idx_div s i hc] at h
  omega

/-! ### right scans -/
structure ScGood (s : Sc) : Prop where
  row : -100000 ≤ s.row ∧ s.row ≤ 100000
  col : -100000 ≤ s.col ∧ s.col ≤ 100000
  rows : 1 ≤ s.rows ∧ s.rows ≤ 24
  cols : 1 ≤ s.cols ∧ s.cols ≤ 24
  len : (s.data.length : Int) = s.rows * s.cols
  short : s.data.length ≤ 576
  data : ∀ x ∈ s.data, 0 ≤ x ∧ x ≤ 1000000000
theorem scanE_zero {s : Sc} (h : scanE s = 0) : ScGood s := by
  unfold scanE at h
  split at h
  · cases h
  · rename_i h1
    split at h
    · cases h
    · rename_i h2
      split at h
      · rename_i h3
        simp [wi] at h1
        have h2' : (s.data.length : Int) = s.rows * s.cols := by simpa using h2
        have hm := mul_bd0 (show 0 ≤ s.rows by omega) (show s.rows ≤ 24 by omega) (show 0 ≤ s.cols by omega) (show s.cols ≤ 24 by omega)
        refine ⟨by omega, by omega, by omega, by omega, h2', by omega, fun x hx => ?_⟩
        have := List.all_eq_true.1 h3 x hx
        simpa [wi] using this
      · cases h
theorem scansE'_zero : ∀ (l : List Sc) (i : Int), (scansE' i l).2 = 0 → ∀ s ∈ l, scanE s = 0
  | [], _, _ => by simp
  | s :: l, i, h => by
    rw [scansE'_cons] at h
    split at h
    · rename_i h0
      intro x hx
      rcases List.mem_cons.1 hx with rfl | hx
      · exact h0
      · exact scansE'_zero l _ h x hx
    · rename_i h0; exact absurd h h0
theorem scansE_zero {l : List Sc} (h : (scansE l).2 = 0) : l.length ≤ 6 ∧ ∀ s ∈ l, ScGood s := by
  unfold scansE at h
  split at h
  · cases h
  · exact ⟨by omega, fun s hs => scanE_zero (scansE'_zero l 0 h s hs)⟩
theorem atV_bd {l : List Sc} (h : ∀ s ∈ l, ScGood s) (r c : Int) : -1 ≤ atV l r c ∧ atV l r c ≤ 1000000000 := by
  unfold atV
  have : ∀ (l : List Sc) (b : Int), (∀ s ∈ l, ScGood s) → -1 ≤ b ∧ b ≤ 1000000000 → -1 ≤ l.foldl (fun b s => atS b s r c) b ∧ l.foldl (fun b s => atS b s r c) b ≤ 1000000000 := by
    intro l
    induction l with
    | nil => intro b _ hb; exact hb
    | cons s l ih =>
      intro b hg hb
      refine ih _ (fun x hx => hg x (by simp [hx])) ?_
      show -1 ≤ atS b s r c ∧ atS b s r c ≤ 1000000000
      unfold atS
      split
      · have hd : 0 ≤ datV s r c ∧ datV s r c ≤ 1000000000 := by
          unfold datV
          cases hq : s.data[((r - s.row) * s.cols + (c - s.col)).toNat]? with
          | none => simp
          | some x => exact (hg s (by simp)).data x (List.mem_of_getElem? hq)
        omega
      · exact hb
  exact this l (-1) h (by omega)

set_option maxRecDepth 100000 in
set_option maxHeartbeats 1000000 in
theorem open_bad (l : List Sc) (A : Option Addr) (c B : Nat) (w : World) (hl : ScOk l A B w) (hB : B ≤ w.heap.size) (he : (scansE l).2 ≠ 0) :
    Calls Tryz.prog 54 #[.slice A l.length c] w fun e w' => e = .returned (.tuple #[.map none, .int .i64 (scansE l).2]) ∧ Below w.heap.size w w' := by
  obtain ⟨⟨i, e⟩, hE⟩ : ∃ p, scansE l = p := ⟨_, rfl⟩
  rw [hE] at he
  have HE := Lib.hid hE; clear hE
  have he' : (e != 0) = true := by simpa using he
  go_enter Tryz.func54, Tryz.ntmps54
  go_wp2_with fail
  refine (checkScans_any l A c B w hl hB).mono ?_
  rw [HE.out]
  rintro e w1 ⟨rfl, hB1⟩
  go_wp2
  go_ret2
  exact ⟨by rw [HE.out]; rfl, hB1⟩

set_option maxRecDepth 100000 in
set_option maxHeartbeats 2000000 in
theorem open_ok (l : List Sc) (A : Option Addr) (c B : Nat) (w : World) (hl : ScOk l A B w) (hB : B ≤ w.heap.size) (he : (scansE l).2 = 0) :
    Calls Tryz.prog 54 #[.slice A l.length c] w fun e w' => ∃ b n, e = .returned (.tuple #[.map (some b), .int .i64 0]) ∧ w.heap.size ≤ b ∧ n ≤ 100000 ∧ FMap w' b n (atV l) ∧ Below w.heap.size w w' := by
  have hmm := @run_makeMap Tryz.prog
  obtain ⟨h6, hgood⟩ := scansE_zero he
  obtain ⟨⟨i, e⟩, hE⟩ : ∃ p, scansE l = p := ⟨_, rfl⟩
  rw [hE] at he
  obtain rfl : e = 0 := he
  have HE := Lib.hid hE; clear hE
  have HG := Lib.hid hgood; clear hgood
  go_enter Tryz.func54, Tryz.ntmps54
  go_wp2_with fail
  refine (checkScans_any l A c B w hl hB).mono ?_
  rw [HE.out]
  rintro e wq ⟨rfl, hB1⟩
  go_wp2_with fail
  have hzq := Below.size hB1
  go_loopw [23] (fun i wr => ∃ k n : Nat, k ≤ l.length ∧ i = .int .i64 k ∧ n ≤ k * 576 ∧ FMap wr wq.heap.size n (atV (l.take k)) ∧ Below w.heap.size w wr) (fun i _ => l.length - (intOf i).toNat)
  case atStart => exact ⟨0, 0, Nat.zero_le _, rfl, Nat.le_refl _, FMap.made wq, hB1.alloc hzq _⟩
  case round =>
    obtain ⟨k, n, hk, rfl, hn, hM, hBB⟩ := hrel
    obtain ⟨wo, rfl⟩ : ∃ wo, wo = wr := ⟨wr, rfl⟩
    have hl' := hl.below hBB hB
    by_cases hlt : k < l.length
    · obtain ⟨g, o, hA, hg, c0, c1, c2, c3, c4⟩ := scCells hl'.row hlt
      have hdat := hl'.data l[k] (List.getElem_mem hlt)
      have HGS := HG.out l[k] (List.getElem_mem hlt)
      have HTK : Hid (l.take (k + 1) = l.take k ++ [l[k]]) := Lib.hid (List.take_succ_eq_append_getElem hlt)
      have HGT : Hid (∀ s ∈ l.take k, ScGood s) := Lib.hid (fun s hs => HG.out s (List.mem_of_mem_take hs))
      generalize l[k] = s at *
      obtain ⟨⟨p1, p1'⟩, ⟨p2, p2'⟩, ⟨p3, p3'⟩, ⟨p4, p4'⟩, p5, p6, p7⟩ := HGS
      have P5 := Lib.hid p5; have P7 := Lib.hid p7; clear p5 p7
      obtain ⟨LT, hLT⟩ : ∃ L, l.take k = L := ⟨_, rfl⟩
      rw [hLT] at hM HTK HGT
      clear hLT
      subst hA
      have hzb := Below.size hBB
      have hMlt := hM.lt
      go_wp2_with fail
      go_loopw [30] (fun j w2 => ∃ m n2 : Nat, m ≤ s.data.length ∧ j = .int .i64 m ∧ n2 ≤ n + m ∧ FMap w2 wq.heap.size n2 (atP LT s m) ∧ Blk w2 wo.heap.size 59 (scC s).toArray ∧ Below w.heap.size w w2 ∧ Below wq.heap.size wo w2) (fun j _ => s.data.length - (intOf j).toNat)
      case atStart => exact ⟨0, n, Nat.zero_le _, rfl, Nat.le_refl _, by rw [atP_zero LT s p4]; exact hM.alloc _, Blk.new _ _ _, hBB.alloc hzb _, (Below.refl _ wo).alloc (by omega) _⟩
      case round =>
        obtain ⟨m, n2, hm, rfl, hn2, hM2, hb2, hB2, hB2'⟩ := hrel
        by_cases hlt2 : m < s.data.length
        · have hdat2 := hdat.below hB2' (by omega)
          obtain ⟨g2, o2, hA2, hg2, d0⟩ := intCell hdat2 hlt2
          have HX : Hid (atP LT s (m + 1) = upd (atP LT s m) (s.row + (m : Int) / s.cols) (s.col + (m : Int) % s.cols) (max (atP LT s m (s.row + (m : Int) / s.cols) (s.col + (m : Int) % s.cols)) s.data[m])) := Lib.hid (by rw [atP_succ LT s m p4 P5.out hlt2, atP_at LT s m p4])
          have hx0 := P7.out s.data[m] (List.getElem_mem hlt2)
          have hgb : -1 ≤ atP LT s m (s.row + (m : Int) / s.cols) (s.col + (m : Int) % s.cols) ∧ atP LT s m (s.row + (m : Int) / s.cols) (s.col + (m : Int) % s.cols) ≤ 1000000000 := by rw [atP_at LT s m p4]; exact atV_bd HGT.out _ _
          generalize s.data[m] = x at *
          have HV : Hid ((if pos (atP LT s m (s.row + (m : Int) / s.cols) (s.col + (m : Int) % s.cols)) < x then x else pos (atP LT s m (s.row + (m : Int) / s.cols) (s.col + (m : Int) % s.cols))) = max (atP LT s m (s.row + (m : Int) / s.cols) (s.col + (m : Int) % s.cols)) x ∧
            0 ≤ (if pos (atP LT s m (s.row + (m : Int) / s.cols) (s.col + (m : Int) % s.cols)) < x then x else pos (atP LT s m (s.row + (m : Int) / s.cols) (s.col + (m : Int) % s.cols))) ∧
            (if pos (atP LT s m (s.row + (m : Int) / s.cols) (s.col + (m : Int) % s.cols)) < x then x else pos (atP LT s m (s.row + (m : Int) / s.cols) (s.col + (m : Int) % s.cols))) ≤ 1000000000) := Lib.hid (by
              generalize atP LT s m (s.row + (m : Int) / s.cols) (s.col + (m : Int) % s.cols) = G at hgb
              unfold pos; split <;> split <;> omega)
          rw [hA2]
          have e1 := Int.emod_nonneg (m : Int) (show s.cols ≠ 0 by omega)
          have e2 := Int.emod_lt_of_pos (m : Int) (show 0 < s.cols by omega)
          have e3 : 0 ≤ (m : Int) / s.cols := Int.ediv_nonneg (by omega) (by omega)
          have e4 : (m : Int) / s.cols ≤ m := Int.ediv_le_self _ (by omega)
          have ecn : s.cols ≠ 0 := by omega
          have l2 := hb2.lt
          obtain ⟨b0, b1, b2, b3, b4, bf⟩ := blk5c hb2
          have hz2 := Below.size hB2
          go_wp2_with fail
          refine wp_region_w (Gr _) (by kernel_rfl) (Below.refl _ _).drew ?_
          refine wpW_det (t' := ?ct0R1) 0 (by rfl) (by kernel_rfl) (NQ_free _) (by kernel_rfl) ?cw0R1 ?ch0R1 ?ca0R1 (Eq.refl _) ?cH0R1
          case cw0R1 => (go_simp; done)
          case ch0R1 =>
            intro ds w' hS K hK
            have hc := (bcell hS).1
            have hf := (bcell hS).2
            have hz := hS.size
            try simp at hz
            go_simp
            try go_bits
            first
              | exact hK _ hS (Gr.refl _)
              | fail
              | exact hK _ (by repeat (first | (with_reducible exact Below.refl _ _) | (with_reducible assumption) | ((with_reducible refine Below.setCell ?_ ?_ _); rotate_left; · (first | exact Nat.le_refl _ | (simp; done) | (simp; omega) | omega)) | ((with_reducible refine Below.alloc ?_ ?_ _); rotate_left; · (first | exact Nat.le_refl _ | (simp; done) | (simp; omega) | omega)) | (with_reducible apply Below.drew) | (with_reducible apply below_drewN') | (refine Below.trans ?_ (Below.mono (by assumption) (by first | exact Nat.le_refl _ | (simp; done) | (simp; omega) | omega))) | exact Below.refl _ _ | assumption)) (by repeat (first | (with_reducible exact Below.refl _ _) | (with_reducible assumption) | ((with_reducible refine Below.setCell ?_ ?_ _); rotate_left; · (first | exact Nat.le_refl _ | (simp; done) | (simp; omega) | omega)) | ((with_reducible refine Below.alloc ?_ ?_ _); rotate_left; · (first | exact Nat.le_refl _ | (simp; done) | (simp; omega) | omega)) | (with_reducible apply Below.drew) | (with_reducible apply below_drewN') | (refine Below.trans ?_ (Below.mono (by assumption) (by first | exact Nat.le_refl _ | (simp; done) | (simp; omega) | omega))) | exact Below.refl _ _ | assumption))
          case ca0R1 => (first | (simp [Act.put]; done) | (simp [Act.put, *]; done))
          try dsimp only
          refine wpW_det (t' := ?ct1R1) 1 (by rfl) (by kernel_rfl) (NQ_free _) (by kernel_rfl) ?cw1R1 ?ch1R1 ?ca1R1 (Eq.refl _) ?cH1R1
          case cw1R1 => (go_simp; done)
          case ch1R1 =>
            intro ds w' hS K hK
            have hc := (bcell hS).1
            have hf := (bcell hS).2
            have hz := hS.size
            try simp at hz
            go_simp
            try go_bits
            first
              | exact hK _ hS (Gr.refl _)
              | fail
              | exact hK _ (by repeat (first | (with_reducible exact Below.refl _ _) | (with_reducible assumption) | ((with_reducible refine Below.setCell ?_ ?_ _); rotate_left; · (first | exact Nat.le_refl _ | (simp; done) | (simp; omega) | omega)) | ((with_reducible refine Below.alloc ?_ ?_ _); rotate_left; · (first | exact Nat.le_refl _ | (simp; done) | (simp; omega) | omega)) | (with_reducible apply Below.drew) | (with_reducible apply below_drewN') | (refine Below.trans ?_ (Below.mono (by assumption) (by first | exact Nat.le_refl _ | (simp; done) | (simp; omega) | omega))) | exact Below.refl _ _ | assumption)) (by repeat (first | (with_reducible exact Below.refl _ _) | (with_reducible assumption) | ((with_reducible refine Below.setCell ?_ ?_ _); rotate_left; · (first | exact Nat.le_refl _ | (simp; done) | (simp; omega) | omega)) | ((with_reducible refine Below.alloc ?_ ?_ _); rotate_left; · (first | exact Nat.le_refl _ | (simp; done) | (simp; omega) | omega)) | (with_reducible apply Below.drew) | (with_reducible apply below_drewN') | (refine Below.trans ?_ (Below.mono (by assumption) (by first | exact Nat.le_refl _ | (simp; done) | (simp; omega) | omega))) | exact Below.refl _ _ | assumption))
          case ca1R1 => (first | (simp [Act.put]; done) | (simp [Act.put, *]; done))
          try dsimp only
          refine wpW_det (t' := ?ct2R1) 2 (by rfl) (by kernel_rfl) (NQ_free _) (by kernel_rfl) ?cw2R1 ?ch2R1 ?ca2R1 (Eq.refl _) ?cH2R1
          case cw2R1 => (go_simp; done)
          case ch2R1 =>
            intro ds w' hS K hK
            have hc := (bcell hS).1
            have hf := (bcell hS).2
            have hz := hS.size
            try simp at hz
            go_simp
            try go_bits
            first
              | exact hK _ hS (Gr.refl _)
              | fail
              | exact hK _ (by repeat (first | (with_reducible exact Below.refl _ _) | (with_reducible assumption) | ((with_reducible refine Below.setCell ?_ ?_ _); rotate_left; · (first | exact Nat.le_refl _ | (simp; done) | (simp; omega) | omega)) | ((with_reducible refine Below.alloc ?_ ?_ _); rotate_left; · (first | exact Nat.le_refl _ | (simp; done) | (simp; omega) | omega)) | (with_reducible apply Below.drew) | (with_reducible apply below_drewN') | (refine Below.trans ?_ (Below.mono (by assumption) (by first | exact Nat.le_refl _ | (simp; done) | (simp; omega) | omega))) | exact Below.refl _ _ | assumption)) (by repeat (first | (with_reducible exact Below.refl _ _) | (with_reducible assumption) | ((with_reducible refine Below.setCell ?_ ?_ _); rotate_left; · (first | exact Nat.le_refl _ | (simp; done) | (simp; omega) | omega)) | ((with_reducible refine Below.alloc ?_ ?_ _); rotate_left; · (first | exact Nat.le_refl _ | (simp; done) | (simp; omega) | omega)) | (with_reducible apply Below.drew) | (with_reducible apply below_drewN') | (refine Below.trans ?_ (Below.mono (by assumption) (by first | exact Nat.le_refl _ | (simp; done) | (simp; omega) | omega))) | exact Below.refl _ _ | assumption))
          case ca2R1 => (first | (simp [Act.put]; done) | (simp [Act.put, *]; done))
          try dsimp only
          refine wpW_det (t' := ?ct3R1) 3 (by rfl) (by kernel_rfl) (NQ_free _) (by kernel_rfl) ?cw3R1 ?ch3R1 ?ca3R1 (Eq.refl _) ?cH3R1
          case cw3R1 => (go_simp; done)
          case ch3R1 =>
            intro ds w' hS K hK
            have hc := (bcell hS).1
            have hf := (bcell hS).2
            have hz := hS.size
            try simp at hz
            go_simp
            try go_bits
            first
              | exact hK _ hS (Gr.refl _)
              | fail
              | exact hK _ (by repeat (first | (with_reducible exact Below.refl _ _) | (with_reducible assumption) | ((with_reducible refine Below.setCell ?_ ?_ _); rotate_left; · (first | exact Nat.le_refl _ | (simp; done) | (simp; omega) | omega)) | ((with_reducible refine Below.alloc ?_ ?_ _); rotate_left; · (first | exact Nat.le_refl _ | (simp; done) | (simp; omega) | omega)) | (with_reducible apply Below.drew) | (with_reducible apply below_drewN') | (refine Below.trans ?_ (Below.mono (by assumption) (by first | exact Nat.le_refl _ | (simp; done) | (simp; omega) | omega))) | exact Below.refl _ _ | assumption)) (by repeat (first | (with_reducible exact Below.refl _ _) | (with_reducible assumption) | ((with_reducible refine Below.setCell ?_ ?_ _); rotate_left; · (first | exact Nat.le_refl _ | (simp; done) | (simp; omega) | omega)) | ((with_reducible refine Below.alloc ?_ ?_ _); rotate_left; · (first | exact Nat.le_refl _ | (simp; done) | (simp; omega) | omega)) | (with_reducible apply Below.drew) | (with_reducible apply below_drewN') | (refine Below.trans ?_ (Below.mono (by assumption) (by first | exact Nat.le_refl _ | (simp; done) | (simp; omega) | omega))) | exact Below.refl _ _ | assumption))
          case ca3R1 => (first | (simp [Act.put]; done) | (simp [Act.put, *]; done))
          try dsimp only
          refine wpW_det (t' := ?ct4R1) 4 (by rfl) (by kernel_rfl) (NQ_free _) (by kernel_rfl) ?cw4R1 ?ch4R1 ?ca4R1 (Eq.refl _) ?cH4R1
          case cw4R1 => (go_simp; done)
          case ch4R1 =>
            intro ds w' hS K hK
            have hc := (bcell hS).1
            have hf := (bcell hS).2
            have hz := hS.size
            try simp at hz
            go_simp
            try go_bits
            first
              | exact hK _ hS (Gr.refl _)
              | fail
              | exact hK _ (by repeat (first | (with_reducible exact Below.refl _ _) | (with_reducible assumption) | ((with_reducible refine Below.setCell ?_ ?_ _); rotate_left; · (first | exact Nat.le_refl _ | (simp; done) | (simp; omega) | omega)) | ((with_reducible refine Below.alloc ?_ ?_ _); rotate_left; · (first | exact Nat.le_refl _ | (simp; done) | (simp; omega) | omega)) | (with_reducible apply Below.drew) | (with_reducible apply below_drewN') | (refine Below.trans ?_ (Below.mono (by assumption) (by first | exact Nat.le_refl _ | (simp; done) | (simp; omega) | omega))) | exact Below.refl _ _ | assumption)) (by repeat (first | (with_reducible exact Below.refl _ _) | (with_reducible assumption) | ((with_reducible refine Below.setCell ?_ ?_ _); rotate_left; · (first | exact Nat.le_refl _ | (simp; done) | (simp; omega) | omega)) | ((with_reducible refine Below.alloc ?_ ?_ _); rotate_left; · (first | exact Nat.le_refl _ | (simp; done) | (simp; omega) | omega)) | (with_reducible apply Below.drew) | (with_reducible apply below_drewN') | (refine Below.trans ?_ (Below.mono (by assumption) (by first | exact Nat.le_refl _ | (simp; done) | (simp; omega) | omega))) | exact Below.refl _ _ | assumption))
          case ca4R1 => (first | (simp [Act.put]; done) | (simp [Act.put, *]; done))
          try dsimp only
          refine wpW_det (t' := ?ct5R1) 5 (by rfl) (by kernel_rfl) (NQ_free _) (by kernel_rfl) ?cw5R1 ?ch5R1 ?ca5R1 (Eq.refl _) ?cH5R1
          case cw5R1 => (go_simp; done)
          case ch5R1 =>
            intro ds w' hS K hK
            have hc := (bcell hS).1
            have hf := (bcell hS).2
            have hz := hS.size
            try simp at hz
            go_simp
            try go_bits
            first
              | exact hK _ hS (Gr.refl _)
              | fail
              | exact hK _ (by repeat (first | (with_reducible exact Below.refl _ _) | (with_reducible assumption) | ((with_reducible refine Below.setCell ?_ ?_ _); rotate_left; · (first | exact Nat.le_refl _ | (simp; done) | (simp; omega) | omega)) | ((with_reducible refine Below.alloc ?_ ?_ _); rotate_left; · (first | exact Nat.le_refl _ | (simp; done) | (simp; omega) | omega)) | (with_reducible apply Below.drew) | (with_reducible apply below_drewN') | (refine Below.trans ?_ (Below.mono (by assumption) (by first | exact Nat.le_refl _ | (simp; done) | (simp; omega) | omega))) | exact Below.refl _ _ | assumption)) (by repeat (first | (with_reducible exact Below.refl _ _) | (with_reducible assumption) | ((with_reducible refine Below.setCell ?_ ?_ _); rotate_left; · (first | exact Nat.le_refl _ | (simp; done) | (simp; omega) | omega)) | ((with_reducible refine Below.alloc ?_ ?_ _); rotate_left; · (first | exact Nat.le_refl _ | (simp; done) | (simp; omega) | omega)) | (with_reducible apply Below.drew) | (with_reducible apply below_drewN') | (refine Below.trans ?_ (Below.mono (by assumption) (by first | exact Nat.le_refl _ | (simp; done) | (simp; omega) | omega))) | exact Below.refl _ _ | assumption))
          case ca5R1 => (first | (simp [Act.put]; done) | (simp [Act.put, *]; done))
          try dsimp only
          refine wpW_det (t' := ?ct6R1) 6 (by rfl) (by kernel_rfl) (NQ_free _) (by kernel_rfl) ?cw6R1 ?ch6R1 ?ca6R1 (Eq.refl _) ?cH6R1
          case cw6R1 => (go_simp; done)
          case ch6R1 =>
            intro ds w' hS K hK
            have hc := (bcell hS).1
            have hf := (bcell hS).2
            have hz := hS.size
            try simp at hz
            go_simp
            try go_bits
            first
              | exact hK _ hS (Gr.refl _)
              | fail
              | exact hK _ (by repeat (first | (with_reducible exact Below.refl _ _) | (with_reducible assumption) | ((with_reducible refine Below.setCell ?_ ?_ _); rotate_left; · (first | exact Nat.le_refl _ | (simp; done) | (simp; omega) | omega)) | ((with_reducible refine Below.alloc ?_ ?_ _); rotate_left; · (first | exact Nat.le_refl _ | (simp; done) | (simp; omega) | omega)) | (with_reducible apply Below.drew) | (with_reducible apply below_drewN') | (refine Below.trans ?_ (Below.mono (by assumption) (by first | exact Nat.le_refl _ | (simp; done) | (simp; omega) | omega))) | exact Below.refl _ _ | assumption)) (by repeat (first | (with_reducible exact Below.refl _ _) | (with_reducible assumption) | ((with_reducible refine Below.setCell ?_ ?_ _); rotate_left; · (first | exact Nat.le_refl _ | (simp; done) | (simp; omega) | omega)) | ((with_reducible refine Below.alloc ?_ ?_ _); rotate_left; · (first | exact Nat.le_refl _ | (simp; done) | (simp; omega) | omega)) | (with_reducible apply Below.drew) | (with_reducible apply below_drewN') | (refine Below.trans ?_ (Below.mono (by assumption) (by first | exact Nat.le_refl _ | (simp; done) | (simp; omega) | omega))) | exact Below.refl _ _ | assumption))
          case ca6R1 => (first | (simp [Act.put]; done) | (simp [Act.put, *]; done))
          try dsimp only
          refine wpW_det (t' := ?ct7R1) 7 (by rfl) (by kernel_rfl) (NQ_free _) (by kernel_rfl) ?cw7R1 ?ch7R1 ?ca7R1 (Eq.refl _) ?cH7R1
          case cw7R1 => (go_simp; done)
          case ch7R1 =>
            intro ds w' hS K hK
            have hc := (bcell hS).1
            have hf := (bcell hS).2
            have hz := hS.size
            try simp at hz
            go_simp
            try go_bits
            first
              | exact hK _ hS (Gr.refl _)
              | fail
              | exact hK _ (by repeat (first | (with_reducible exact Below.refl _ _) | (with_reducible assumption) | ((with_reducible refine Below.setCell ?_ ?_ _); rotate_left; · (first | exact Nat.le_refl _ | (simp; done) | (simp; omega) | omega)) | ((with_reducible refine Below.alloc ?_ ?_ _); rotate_left; · (first | exact Nat.le_refl _ | (simp; done) | (simp; omega) | omega)) | (with_reducible apply Below.drew) | (with_reducible apply below_drewN') | (refine Below.trans ?_ (Below.mono (by assumption) (by first | exact Nat.le_refl _ | (simp; done) | (simp; omega) | omega))) | exact Below.refl _ _ | assumption)) (by repeat (first | (with_reducible exact Below.refl _ _) | (with_reducible assumption) | ((with_reducible refine Below.setCell ?_ ?_ _); rotate_left; · (first | exact Nat.le_refl _ | (simp; done) | (simp; omega) | omega)) | ((with_reducible refine Below.alloc ?_ ?_ _); rotate_left; · (first | exact Nat.le_refl _ | (simp; done) | (simp; omega) | omega)) | (with_reducible apply Below.drew) | (with_reducible apply below_drewN') | (refine Below.trans ?_ (Below.mono (by assumption) (by first | exact Nat.le_refl _ | (simp; done) | (simp; omega) | omega))) | exact Below.refl _ _ | assumption))
          case ca7R1 => (first | (simp [Act.put]; done) | (simp [Act.put, *]; done))
          try dsimp only
          refine wpW_det (t' := ?ct8R1) 8 (by rfl) (by kernel_rfl) (NQ_free _) (by kernel_rfl) ?cw8R1 ?ch8R1 ?ca8R1 (Eq.refl _) ?cH8R1
          case cw8R1 => (go_simp; done)
          case ch8R1 =>
            intro ds w' hS K hK
            have hc := (bcell hS).1
            have hf := (bcell hS).2
            have hz := hS.size
            try simp at hz
            go_simp
            try go_bits
            first
              | exact hK _ hS (Gr.refl _)
              | fail
              | exact hK _ (by repeat (first | (with_reducible exact Below.refl _ _) | (with_reducible assumption) | ((with_reducible refine Below.setCell ?_ ?_ _); rotate_left; · (first | exact Nat.le_refl _ | (simp; done) | (simp; omega) | omega)) | ((with_reducible refine Below.alloc ?_ ?_ _); rotate_left; · (first | exact Nat.le_refl _ | (simp; done) | (simp; omega) | omega)) | (with_reducible apply Below.drew) | (with_reducible apply below_drewN') | (refine Below.trans ?_ (Below.mono (by assumption) (by first | exact Nat.le_refl _ | (simp; done) | (simp; omega) | omega))) | exact Below.refl _ _ | assumption)) (by repeat (first | (with_reducible exact Below.refl _ _) | (with_reducible assumption) | ((with_reducible refine Below.setCell ?_ ?_ _); rotate_left; · (first | exact Nat.le_refl _ | (simp; done) | (simp; omega) | omega)) | ((with_reducible refine Below.alloc ?_ ?_ _); rotate_left; · (first | exact Nat.le_refl _ | (simp; done) | (simp; omega) | omega)) | (with_reducible apply Below.drew) | (with_reducible apply below_drewN') | (refine Below.trans ?_ (Below.mono (by assumption) (by first | exact Nat.le_refl _ | (simp; done) | (simp; omega) | omega))) | exact Below.refl _ _ | assumption))
          case ca8R1 => (first | (simp [Act.put]; done) | (simp [Act.put, *]; done))
          try dsimp only
          refine wpW_det (t' := ?ct9R1) 9 (by rfl) (by kernel_rfl) (NQ_free _) (by kernel_rfl) ?cw9R1 ?ch9R1 ?ca9R1 (Eq.refl _) ?cH9R1
          case cw9R1 => (go_simp; done)
          case ch9R1 =>
            intro ds w' hS K hK
            have hc := (bcell hS).1
            have hf := (bcell hS).2
            have hz := hS.size
            try simp at hz
            go_simp
            try go_bits
            first
              | exact hK _ hS (Gr.refl _)
              | fail
              | exact hK _ (by repeat (first | (with_reducible exact Below.refl _ _) | (with_reducible assumption) | ((with_reducible refine Below.setCell ?_ ?_ _); rotate_left; · (first | exact Nat.le_refl _ | (simp; done) | (simp; omega) | omega)) | ((with_reducible refine Below.alloc ?_ ?_ _); rotate_left; · (first | exact Nat.le_refl _ | (simp; done) | (simp; omega) | omega)) | (with_reducible apply Below.drew) | (with_reducible apply below_drewN') | (refine Below.trans ?_ (Below.mono (by assumption) (by first | exact Nat.le_refl _ | (simp; done) | (simp; omega) | omega))) | exact Below.refl _ _ | assumption)) (by repeat (first | (with_reducible exact Below.refl _ _) | (with_reducible assumption) | ((with_reducible refine Below.setCell ?_ ?_ _); rotate_left; · (first | exact Nat.le_refl _ | (simp; done) | (simp; omega) | omega)) | ((with_reducible refine Below.alloc ?_ ?_ _); rotate_left; · (first | exact Nat.le_refl _ | (simp; done) | (simp; omega) | omega)) | (with_reducible apply Below.drew) | (with_reducible apply below_drewN') | (refine Below.trans ?_ (Below.mono (by assumption) (by first | exact Nat.le_refl _ | (simp; done) | (simp; omega) | omega))) | exact Below.refl _ _ | assumption))
          case ca9R1 => (first | (simp [Act.put]; done) | (simp [Act.put, *]; done))
          try dsimp only
          refine wpW_det (t' := ?ct10R1) 10 (by rfl) (by kernel_rfl) (NQ_free _) (by kernel_rfl) ?cw10R1 ?ch10R1 ?ca10R1 (Eq.refl _) ?cH10R1
          case cw10R1 => (go_simp; done)
          case ch10R1 =>
            intro ds w' hS K hK
            have hc := (bcell hS).1
            have hf := (bcell hS).2
            have hz := hS.size
            try simp at hz
            go_simp
            try go_bits
            first
              | exact hK _ hS (Gr.refl _)
              | fail
              | exact hK _ (by repeat (first | (with_reducible exact Below.refl _ _) | (with_reducible assumption) | ((with_reducible refine Below.setCell ?_ ?_ _); rotate_left; · (first | exact Nat.le_refl _ | (simp; done) | (simp; omega) | omega)) | ((with_reducible refine Below.alloc ?_ ?_ _); rotate_left; · (first | exact Nat.le_refl _ | (simp; done) | (simp; omega) | omega)) | (with_reducible apply Below.drew) | (with_reducible apply below_drewN') | (refine Below.trans ?_ (Below.mono (by assumption) (by first | exact Nat.le_refl _ | (simp; done) | (simp; omega) | omega))) | exact Below.refl _ _ | assumption)) (by repeat (first | (with_reducible exact Below.refl _ _) | (with_reducible assumption) | ((with_reducible refine Below.setCell ?_ ?_ _); rotate_left; · (first | exact Nat.le_refl _ | (simp; done) | (simp; omega) | omega)) | ((with_reducible refine Below.alloc ?_ ?_ _); rotate_left; · (first | exact Nat.le_refl _ | (simp; done) | (simp; omega) | omega)) | (with_reducible apply Below.drew) | (with_reducible apply below_drewN') | (refine Below.trans ?_ (Below.mono (by assumption) (by first | exact Nat.le_refl _ | (simp; done) | (simp; omega) | omega))) | exact Below.refl _ _ | assumption))
          case ca10R1 => (first | (simp [Act.put]; done) | (simp [Act.put, *]; done))
          try dsimp only
          refine wpW_det (t' := ?ct11R1) 11 (by rfl) (by kernel_rfl) (NQ_free _) (by kernel_rfl) ?cw11R1 ?ch11R1 ?ca11R1 (Eq.refl _) ?cH11R1
          case cw11R1 => (go_simp; done)
          case ch11R1 =>
            intro ds w' hS K hK
            have hc := (bcell hS).1
            have hf := (bcell hS).2
            have hz := hS.size
            try simp at hz
            go_simp
            try go_bits
            first
              | exact hK _ hS (Gr.refl _)
              | fail
              | exact hK _ (by repeat (first | (with_reducible exact Below.refl _ _) | (with_reducible assumption) | ((with_reducible refine Below.setCell ?_ ?_ _); rotate_left; · (first | exact Nat.le_refl _ | (simp; done) | (simp; omega) | omega)) | ((with_reducible refine Below.alloc ?_ ?_ _); rotate_left; · (first | exact Nat.le_refl _ | (simp; done) | (simp; omega) | omega)) | (with_reducible apply Below.drew) | (with_reducible apply below_drewN') | (refine Below.trans ?_ (Below.mono (by assumption) (by first | exact Nat.le_refl _ | (simp; done) | (simp; omega) | omega))) | exact Below.refl _ _ | assumption)) (by repeat (first | (with_reducible exact Below.refl _ _) | (with_reducible assumption) | ((with_reducible refine Below.setCell ?_ ?_ _); rotate_left; · (first | exact Nat.le_refl _ | (simp; done) | (simp; omega) | omega)) | ((with_reducible refine Below.alloc ?_ ?_ _); rotate_left; · (first | exact Nat.le_refl _ | (simp; done) | (simp; omega) | omega)) | (with_reducible apply Below.drew) | (with_reducible apply below_drewN') | (refine Below.trans ?_ (Below.mono (by assumption) (by first | exact Nat.le_refl _ | (simp; done) | (simp; omega) | omega))) | exact Below.refl _ _ | assumption))
          case ca11R1 => (first | (simp [Act.put]; done) | (simp [Act.put, *]; done))
          try dsimp only
          refine wpW_det (t' := ?ct12R1) 12 (by rfl) (by kernel_rfl) (NQ_free _) (by kernel_rfl) ?cw12R1 ?ch12R1 ?ca12R1 (Eq.refl _) ?cH12R1
          case cw12R1 => (go_simp; done)
          case ch12R1 =>
            intro ds w' hS K hK
            have hc := (bcell hS).1
            have hf := (bcell hS).2
            have hz := hS.size
            try simp at hz
            go_simp
            try go_bits
            first
              | exact hK _ hS (Gr.refl _)
              | fail
              | exact hK _ (by repeat (first | (with_reducible exact Below.refl _ _) | (with_reducible assumption) | ((with_reducible refine Below.setCell ?_ ?_ _); rotate_left; · (first | exact Nat.le_refl _ | (simp; done) | (simp; omega) | omega)) | ((with_reducible refine Below.alloc ?_ ?_ _); rotate_left; · (first | exact Nat.le_refl _ | (simp; done) | (simp; omega) | omega)) | (with_reducible apply Below.drew) | (with_reducible apply below_drewN') | (refine Below.trans ?_ (Below.mono (by assumption) (by first | exact Nat.le_refl _ | (simp; done) | (simp; omega) | omega))) | exact Below.refl _ _ | assumption)) (by repeat (first | (with_reducible exact Below.refl _ _) | (with_reducible assumption) | ((with_reducible refine Below.setCell ?_ ?_ _); rotate_left; · (first | exact Nat.le_refl _ | (simp; done) | (simp; omega) | omega)) | ((with_reducible refine Below.alloc ?_ ?_ _); rotate_left; · (first | exact Nat.le_refl _ | (simp; done) | (simp; omega) | omega)) | (with_reducible apply Below.drew) | (with_reducible apply below_drewN') | (refine Below.trans ?_ (Below.mono (by assumption) (by first | exact Nat.le_refl _ | (simp; done) | (simp; omega) | omega))) | exact Below.refl _ _ | assumption))
          case ca12R1 => (first | (simp [Act.put]; done) | (simp [Act.put, *]; done))
          try dsimp only
          refine wpW_det (t' := ?ct13R1) 13 (by rfl) (by kernel_rfl) (NQ_free _) (by kernel_rfl) ?cw13R1 ?ch13R1 ?ca13R1 (Eq.refl _) ?cH13R1
          case cw13R1 => (go_simp; done)
          case ch13R1 =>
            intro ds w' hS K hK
            have hc := (bcell hS).1
            have hf := (bcell hS).2
            have hz := hS.size
            try simp at hz
            go_simp
            try go_bits
            first
              | exact hK _ hS (Gr.refl _)
              | fail
              | exact hK _ (by repeat (first | (with_reducible exact Below.refl _ _) | (with_reducible assumption) | ((with_reducible refine Below.setCell ?_ ?_ _); rotate_left; · (first | exact Nat.le_refl _ | (simp; done) | (simp; omega) | omega)) | ((with_reducible refine Below.alloc ?_ ?_ _); rotate_left; · (first | exact Nat.le_refl _ | (simp; done) | (simp; omega) | omega)) | (with_reducible apply Below.drew) | (with_reducible apply below_drewN') | (refine Below.trans ?_ (Below.mono (by assumption) (by first | exact Nat.le_refl _ | (simp; done) | (simp; omega) | omega))) | exact Below.refl _ _ | assumption)) (by repeat (first | (with_reducible exact Below.refl _ _) | (with_reducible assumption) | ((with_reducible refine Below.setCell ?_ ?_ _); rotate_left; · (first | exact Nat.le_refl _ | (simp; done) | (simp; omega) | omega)) | ((with_reducible refine Below.alloc ?_ ?_ _); rotate_left; · (first | exact Nat.le_refl _ | (simp; done) | (simp; omega) | omega)) | (with_reducible apply Below.drew) | (with_reducible apply below_drewN') | (refine Below.trans ?_ (Below.mono (by assumption) (by first | exact Nat.le_refl _ | (simp; done) | (simp; omega) | omega))) | exact Below.refl _ _ | assumption))
          case ca13R1 => (first | (simp [Act.put]; done) | (simp [Act.put, *]; done))
          try dsimp only
          refine wpW_det (t' := ?ct14R1) 14 (by rfl) (by kernel_rfl) (NQ_free _) (by kernel_rfl) ?cw14R1 ?ch14R1 ?ca14R1 (Eq.refl _) ?cH14R1
          case cw14R1 => (go_simp; done)
          case ch14R1 =>
            intro ds w' hS K hK
            have hc := (bcell hS).1
            have hf := (bcell hS).2
            have hz := hS.size
            try simp at hz
            go_simp
            try go_bits
            first
              | exact hK _ hS (Gr.refl _)
              | fail
              | exact hK _ (by repeat (first | (with_reducible exact Below.refl _ _) | (with_reducible assumption) | ((with_reducible refine Below.setCell ?_ ?_ _); rotate_left; · (first | exact Nat.le_refl _ | (simp; done) | (simp; omega) | omega)) | ((with_reducible refine Below.alloc ?_ ?_ _); rotate_left; · (first | exact Nat.le_refl _ | (simp; done) | (simp; omega) | omega)) | (with_reducible apply Below.drew) | (with_reducible apply below_drewN') | (refine Below.trans ?_ (Below.mono (by assumption) (by first | exact Nat.le_refl _ | (simp; done) | (simp; omega) | omega))) | exact Below.refl _ _ | assumption)) (by repeat (first | (with_reducible exact Below.refl _ _) | (with_reducible assumption) | ((with_reducible refine Below.setCell ?_ ?_ _); rotate_left; · (first | exact Nat.le_refl _ | (simp; done) | (simp; omega) | omega)) | ((with_reducible refine Below.alloc ?_ ?_ _); rotate_left; · (first | exact Nat.le_refl _ | (simp; done) | (simp; omega) | omega)) | (with_reducible apply Below.drew) | (with_reducible apply below_drewN') | (refine Below.trans ?_ (Below.mono (by assumption) (by first | exact Nat.le_refl _ | (simp; done) | (simp; omega) | omega))) | exact Below.refl _ _ | assumption))
          case ca14R1 => (first | (simp [Act.put]; done) | (simp [Act.put, *]; done))
          try dsimp only
          refine wpW_branch [15] (by kernel_rfl) (by simp) ?_
          intro w1 hg1 hS1
          have hc1 := (bcell hg1).1
          have hf1 := (bcell hg1).2
          have hz1 := hg1.size
          try simp at hz1
          refine each_cons ?_ (each_nil)
          · refine wpOp_go (by rfl) (Eq.refl _) (by go_simp; done) ?_
            intro K hK
            go_simp
            try simp only [Act.put]
            refine hK _ _ (by repeat (first | (with_reducible exact Below.refl _ _) | (with_reducible assumption) | ((with_reducible refine Below.setCell ?_ ?_ _); rotate_left; · (first | exact Nat.le_refl _ | (simp; done) | (simp; omega) | omega)) | ((with_reducible refine Below.alloc ?_ ?_ _); rotate_left; · (first | exact Nat.le_refl _ | (simp; done) | (simp; omega) | omega)) | (with_reducible apply Below.drew) | (with_reducible apply below_drewN') | (refine Below.trans ?_ (Below.mono (by assumption) (by first | exact Nat.le_refl _ | (simp; done) | (simp; omega) | omega))) | exact Below.refl _ _ | assumption)) ?_
            clear hK K
            refine wpW_branch [16] (by kernel_rfl) (by simp) ?_
            intro w2 hg2 hS2
            have hc2 := (bcell hg2).1
            have hf2 := (bcell hg2).2
            have hz2 := hg2.size
            try simp at hz2
            have hl1_2 : w1.heap.size ≤ w2.heap.size := by omega
            try have hm1_2 : w1.heap.size < w2.heap.size := by omega
            refine each_cons ?_ (each_nil)
            · refine wpOp_go (by rfl) (Eq.refl _) (by go_simp; done) ?_
              intro K hK
              go_simp
              try simp only [Act.put]
              refine hK _ _ (by repeat (first | (with_reducible exact Below.refl _ _) | (with_reducible assumption) | ((with_reducible refine Below.setCell ?_ ?_ _); rotate_left; · (first | exact Nat.le_refl _ | (simp; done) | (simp; omega) | omega)) | ((with_reducible refine Below.alloc ?_ ?_ _); rotate_left; · (first | exact Nat.le_refl _ | (simp; done) | (simp; omega) | omega)) | (with_reducible apply Below.drew) | (with_reducible apply below_drewN') | (refine Below.trans ?_ (Below.mono (by assumption) (by first | exact Nat.le_refl _ | (simp; done) | (simp; omega) | omega))) | exact Below.refl _ _ | assumption)) ?_
              clear hK K
              refine wpW_end (by kernel_rfl) ?_
              intro w3 hg3 hS3
              have hc3 := (bcell hg3).1
              have hf3 := (bcell hg3).2
              have hz3 := hg3.size
              try simp at hz3
              have hl1_3 : w1.heap.size ≤ w3.heap.size := by omega
              try have hm1_3 : w1.heap.size < w3.heap.size := by omega
              have hl2_3 : w2.heap.size ≤ w3.heap.size := by omega
              try have hm2_3 : w2.heap.size < w3.heap.size := by omega
              unfold NQ
              dsimp only
              have b11 := (Blk.gr ((Blk.gr (Blk.new w1 62 #[.int .i64 0, .int .i64 0]) hg2).set2 (.int .i64 (s.row + (m : Int) / s.cols)) (.int .i64 (s.col + (m : Int) % s.cols))) hg3)
              replace hb2 := hb2.below hS3 hb2.lt
              replace hM2 := hM2.gr hS3
              replace hB2 := hB2.trans (Below.mono hS3 (Below.size hB2))
              have hzp := hB2'.size
              replace hB2' := hB2'.trans (Below.mono hS3 (Nat.le_trans (Nat.le_of_lt hMlt) hzp))
              have l11 := b11.lt
              obtain ⟨k0, k1, _⟩ := blk2c b11
              have hlk : ∀ w', Below w3.heap.size w3 w' → (Instr.lookup 90 (.map (some wq.heap.size)) (cellV (s.row + (m : Int) / s.cols) (s.col + (m : Int) % s.cols)) false).run Tryz.prog w' = .ok (.int .i64 (pos (atP LT s m (s.row + (m : Int) / s.cols) (s.col + (m : Int) % s.cols)))) w' := fun w' h =>
                (hM2.gr h).look Tryz.underlying90 (by unfold W64; omega) (by unfold W64; omega)
              go_wp2_with fail
              refine wp_region_b 7 (by kernel_rfl) (by kernel_rfl) ?_; simp only [List.take, List.drop]
              repeat (first
                | (apply StepsD.run
                   · go_simp
                     done
                   · intro w' hS K hK
                     have hc := (bcell hS).1
                     have hf := (bcell hS).2
                     have hz := hS.size
                     try simp at hz
                     go_simp
                     try go_bits
                     first
                       | exact hK _ hS
                       | exact hK _ (by repeat (first | (with_reducible exact Below.refl _ _) | (with_reducible assumption) | ((with_reducible refine Below.setCell ?_ ?_ _); rotate_left; · (first | exact Nat.le_refl _ | (simp; done) | (simp; omega) | omega)) | ((with_reducible refine Below.alloc ?_ ?_ _); rotate_left; · (first | exact Nat.le_refl _ | (simp; done) | (simp; omega) | omega)) | (with_reducible apply Below.drew) | (with_reducible apply below_drewN') | (refine Below.trans ?_ (Below.mono (by assumption) (by first | exact Nat.le_refl _ | (simp; done) | (simp; omega) | omega))) | exact Below.refl _ _ | assumption))
                   · simp [Act.put]
                     done)
                | (apply StepsD.pass
                   · go_simp
                     done
                   · simp only [Act.put, List.setIfInBounds_toArray, List.set_cons_succ, List.set_cons_zero]
                     rfl))
              refine StepsD.done ?_
              intro w4 hS4
              have hM4 := hM2.gr hS4
              have hB4 := hB2.trans (Below.mono hS4 (Below.size hB2))
              have hB4' := hB2'.trans (Below.mono hS4 (Nat.le_trans (Nat.le_of_lt hMlt) hB2'.size))
              have hb4 := hb2.gr hS4
              refine wpList_fput rfl _ _ _ _ rfl Tryz.underlying90 _ hM4 (by unfold maxLen; omega) rfl _ _ _ rfl rfl ?cr ?cc ?cv ?c0 ?_
              case cr => unfold W64; omega
              case cc => unfold W64; omega
              case cv => unfold W64; have := HV.out; omega
              case c0 => have := HV.out; omega
              intro w5 hM5 hgr5
              have hb5 := hb4.grown hgr5 (fun e => by have := Option.some.inj e; omega)
              have hB5 := hB4.grown hgr5 (Below.size hB4) (fun k e => by cases e; exact hzq)
              have hB5' := hB4'.grown hgr5 (Nat.le_trans (Nat.le_of_lt hMlt) hB4'.size) (fun k e => by cases e; exact Nat.le_refl _)
              clear hlk hM4 hB4 hB4' hb4 hS4 hM2 hB2 hB2' hb2 b11 k0 k1
              have HM5 : Hid (FMap w5 wq.heap.size (n2 + 1) (atP LT s (m + 1))) := Lib.hid (by rw [HX.out, ← HV.out.1]; exact hM5)
              clear hM5
              go_wp2
              refine ⟨⟨m + 1, n2 + 1, by omega, by go_num, by omega, HM5.out, hb5, hB5, hB5'⟩, by simp [intOf]; omega⟩
        · obtain rfl : m = s.data.length := by omega
          have HM2 : Hid (FMap wr wq.heap.size n2 (atV (l.take (k + 1)))) := Lib.hid (by rw [HTK.out, ← atP_all LT s p4 P5.out]; exact hM2)
          clear hM2
          go_wp2
          refine ⟨⟨k + 1, n2, by omega, by go_num, by omega, HM2.out, hB2⟩, by simp [intOf]; omega⟩
    · obtain rfl : k = l.length := by omega
      rw [List.take_length] at hM
      have HM := Lib.hid hM
      have hb : w.heap.size ≤ wq.heap.size := hzq
      go_wp2
      go_ret2
      exact ⟨wq.heap.size, n, rfl, hb, by omega, hM, hBB⟩
end Go.Proofs.YtjimdnmdnjhnjaaGreatDoor
