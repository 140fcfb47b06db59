/- Contracts: equal joints; the bevelled joint of the program and of the reference; a bevelled joint is right. -/
import Derived.Test.YtfbnpfhnffahdaaGreatDoorCwH
import Derived.Test.YtfbnpfhnffahdaaGreatDoorCwK
import Derived.Test.YtfbnpfhnffahdaaGreatDoorCvR
namespace Go.Proofs.YtfbnpfhnffahdaaGreatDoor
open Go.RowKit

set_option maxRecDepth 100000 in
set_option maxHeartbeats 1000000 in
theorem same_any (j : Jo) (A A' : Option Addr) (c c' B : Nat) (w : World) (hj : JoOk j A c B w) (hj' : JoOk j A' c' B w) :
    Calls Tryz.prog 18 #[.agg (joC j A c), .agg (joC j A' c')] w fun e w' => e = .returned (.bool true) ∧ Below w.heap.size w w' := by
  obtain ⟨_, _, k3, k4, hR, hB⟩ := hj
  obtain ⟨_, _, i3, i4, hR', _⟩ := hj'
  unfold joC
  go_enter Tryz.func18, Tryz.ntmps18
  go_wp2
  go_loopw [5] (fun i wr => ∃ k : Nat, k ≤ j.fs.length ∧ i = .int .i64 k ∧ Blk wr w.heap.size 24 (joC j A c) ∧ Blk wr (w.heap.size + 1) 24 (joC j A' c') ∧ Below w.heap.size w wr) (fun i _ => j.fs.length - (intOf i).toNat)
  case atStart => exact ⟨0, Nat.zero_le _, rfl, (Blk.new _ _ _).alloc _, Blk.new' _ _ _ (by simp), ((Below.refl _ _).alloc (Nat.le_refl _) _).alloc (by simp) _⟩
  case round =>
    obtain ⟨k, hk, rfl, b1, b2, hBr⟩ := hrel
    have hsr := Below.size hBr
    have l1 := b1.lt
    have l2 := b2.lt
    obtain ⟨q0, q1, q2, q3⟩ := jo_cells b1
    obtain ⟨r0, r1, r2, r3⟩ := jo_cells b2
    by_cases hlt : k < j.fs.length
    · obtain ⟨g, o, hA, hg, c0, c1, c2, c3, c4⟩ := faceCells (hR.below hBr hB) hlt
      obtain ⟨g', o', hA', hg', d0, d1, d2, d3, d4⟩ := faceCells (hR'.below hBr hB) hlt
      subst hA hA'
      have lg : g < wr.heap.size := by omega
      have lg' : g' < wr.heap.size := by omega
      have k0 : (0 : Int) ≤ (k : Int) := by omega
      have k1 : (k : Int) < (j.fs.length : Int) := by omega
      generalize j.fs[k] = p at *
      obtain ⟨pn, pf⟩ := p
      obtain ⟨fx, fz, tx, tz⟩ := pf
      simp only at c0 c1 c2 c3 c4 d0 d1 d2 d3 d4
      go_wp2_with fail
      refine wp_region_b 11 (by kernel_rfl) (by kernel_rfl) ?_; simp only [List.take, List.drop]
      repeat (first
        | (apply StepsD.run
           · go_simp
             done
           · intro w' hS K hK
             have hc := (bcell hS).1
             have hf := (bcell hS).2
             have hz := hS.size
             try simp at hz
             go_simp
             try go_bits
             first
               | exact hK _ hS
               | exact hK _ (by repeat (first | (with_reducible exact Below.refl _ _) | (with_reducible assumption) | ((with_reducible refine Below.setCell ?_ ?_ _); rotate_left; · (first | exact Nat.le_refl _ | (simp; done) | (simp; omega) | omega)) | ((with_reducible refine Below.alloc ?_ ?_ _); rotate_left; · (first | exact Nat.le_refl _ | (simp; done) | (simp; omega) | omega)) | (with_reducible apply Below.drew) | (with_reducible apply below_drewN') | (refine Below.trans ?_ (Below.mono (by assumption) (by first | exact Nat.le_refl _ | (simp; done) | (simp; omega) | omega))) | exact Below.refl _ _ | assumption))
           · simp [Act.put]
             done)
        | (apply StepsD.pass
           · go_simp
             done
           · simp only [Act.put, List.setIfInBounds_toArray, List.set_cons_succ, List.set_cons_zero]
             rfl))
      refine StepsD.done ?_
      intro w' hS
      go_wp2
      go_roundw
      case rel => exact ⟨k + 1, by omega, by go_num, b1.below hS l1, b2.below hS l2, hBr.trans (hS.mono hsr)⟩
      case measure => simp [intOf]; omega
    · obtain rfl : k = j.fs.length := by omega
      go_wp2
      go_ret
      exact ⟨rfl, hBr⟩

theorem own_cap {w : World} {base e size n cap : Nat} {A : Option Addr} {xs : List Value} (h : w.ownsRow base e size (.slice A n cap) n xs) : cap ≤ 9223372036854775807 ∧ n ≤ cap ∧ (A = none → cap = 0) := by
  rcases h.2 with ⟨h1, rfl⟩ | ⟨g, cap', cur, h1, _, _, hn, hm, _⟩
  · simp at h1; omega
  · simp at h1
    obtain ⟨rfl, rfl⟩ := h1
    exact ⟨by simpa [maxLen] using hm, hn, by simp⟩

/-- The joint that Bevelled answers. -/
def j0 : Jo := ⟨⟨#[]⟩, 0, 0, []⟩
def bvA (nm : ByteArray) (b : Bv) : Jo := if bvE nm b = 0 then bvJ nm b else j0
theorem bvF_names {b : Bv} {sd : ByteArray} {sg : Int} (hs : sd.size ≤ 1) : ∀ p ∈ bvF b sd sg, p.1.size ≤ 1000000000000 := by
  intro p hp
  unfold bvF at hp
  rcases List.mem_append.1 hp with hp | hp
  · split at hp
    · simp at hp; subst hp; simp only [ByteArray.size_append]; have : (⟨#[45, 108, 97, 110, 100]⟩ : ByteArray).size = 5 := rfl; omega
    · simp at hp
  · split at hp
    · simp at hp; subst hp; simp only [ByteArray.size_append]; have : (⟨#[45, 98, 101, 118, 101, 108]⟩ : ByteArray).size = 6 := rfl; omega
    · simp at hp
theorem bvJ_names (nm : ByteArray) (b : Bv) : ∀ p ∈ (bvJ nm b).fs, p.1.size ≤ 1000000000000 := by
  intro p hp
  rcases List.mem_append.1 hp with hp | hp
  · exact bvF_names (sd := ⟨#[108]⟩) (Nat.le_refl 1) p hp
  · exact bvF_names (sd := ⟨#[114]⟩) (Nat.le_refl 1) p hp
theorem bevR_all {nm : ByteArray} {b : Bv} {n : Nat} {e : Ending} {w' : World} (hs : nm.size ≤ 1000000000000) (h : BevR nm b n e w') :
    ∃ A c, e = .returned (.tuple #[.agg (joC (bvA nm b) A c), .int .i64 (bvE nm b)]) ∧ JoOk (bvA nm b) A c w'.heap.size w' ∧ (A = none → c = 0) := by
  by_cases h0 : bvE nm b = 0
  · obtain ⟨v, he, hown⟩ := h.2 h0
    obtain ⟨A, cap, rfl, hn, _⟩ := own_shape hown
    obtain ⟨A', cap', hv, hR⟩ := Row.own hown
    simp at hv
    obtain ⟨rfl, rfl⟩ := hv
    have hc := own_cap hown
    have hbv : bvA nm b = bvJ nm b := by unfold bvA; rw [if_pos h0]
    rw [hbv]
    exact ⟨A, cap, by rw [he, h0]; rfl, ⟨hs, bvJ_names nm b, hn, hc.1, hR, Nat.le_refl _⟩, hc.2.2⟩
  · have he := h.1 h0
    have hbv : bvA nm b = j0 := by unfold bvA; rw [if_neg h0]
    rw [hbv]
    exact ⟨none, 0, he, ⟨by simp [j0, ByteArray.size], by simp [j0], Nat.le_refl _, by omega, Row.nil_, Nat.le_refl _⟩, fun _ => rfl⟩
theorem bvE_ne {nm : ByteArray} {b : Bv} (h : ¬ (nameB nm = true ∧ wi b.thick 1 20000 = true ∧ wi b.zone 0 20000 = true ∧ wi b.gap 0 20000 = true ∧ wi b.land 0 b.thick = true ∧ tanE b.tn b.td = 0)) : bvE nm b ≠ 0 := by
  intro h0
  apply h
  unfold bvE at h0
  by_cases n : nameB nm = false
  · rw [if_pos n] at h0; omega
  · rw [if_neg n] at h0
    by_cases q : bvB b = false
    · rw [if_pos q] at h0; omega
    · rw [if_neg q] at h0
      by_cases t : tanE b.tn b.td ≠ 0
      · rw [if_pos t] at h0; exact absurd h0 t
      · have hb : bvB b = true := by simpa using q
        unfold bvB at hb
        simp only [Bool.and_eq_true] at hb
        exact ⟨by simpa using n, hb.1, hb.2.1, hb.2.2.1, hb.2.2.2, by simpa using t⟩
theorem bvE_zero {nm : ByteArray} {b : Bv} (h : bvE nm b = 0) : nameB nm = true ∧ wi b.thick 1 20000 = true ∧ wi b.zone 0 20000 = true ∧ wi b.gap 0 20000 = true ∧ wi b.land 0 b.thick = true ∧ tanE b.tn b.td = 0 ∧ b.wide ≤ 20000 := by
  have ha : nameB nm = true ∧ wi b.thick 1 20000 = true ∧ wi b.zone 0 20000 = true ∧ wi b.gap 0 20000 = true ∧ wi b.land 0 b.thick = true ∧ tanE b.tn b.td = 0 := by
    apply Classical.byContradiction
    intro hn
    exact bvE_ne hn h
  refine ⟨ha.1, ha.2.1, ha.2.2.1, ha.2.2.2.1, ha.2.2.2.2.1, ha.2.2.2.2.2, ?_⟩
  unfold bvE bvB at h
  rw [ha.1, ha.2.1, ha.2.2.1, ha.2.2.2.1, ha.2.2.2.2.1, ha.2.2.2.2.2] at h
  simp at h
  omega
theorem bevelled_any (nm : ByteArray) (b : Bv) (w : World) (hs : nm.size ≤ 1000000000000) (hw : b.wf) :
    Calls Tryz.prog 15 #[.agg (bvC nm b)] w fun e w' => (∃ A c, e = .returned (.tuple #[.agg (joC (bvA nm b) A c), .int .i64 (bvE nm b)]) ∧ JoOk (bvA nm b) A c w'.heap.size w' ∧ (A = none → c = 0)) ∧ Below w.heap.size w w' := by
  by_cases h : nameB nm = true ∧ wi b.thick 1 20000 = true ∧ wi b.zone 0 20000 = true ∧ wi b.gap 0 20000 = true ∧ wi b.land 0 b.thick = true ∧ tanE b.tn b.td = 0
  · exact (bev_fit nm b w hs hw h.1 h.2.1 h.2.2.1 h.2.2.2.1 h.2.2.2.2.1 h.2.2.2.2.2).mono fun e w' hh => ⟨bevR_all hs hh.1, hh.2⟩
  · have hE : bvE nm b ≠ 0 := bvE_ne h
    exact (bev_bad nm b w hs hw (fun h1 h2 h3 h4 h5 h6 => h ⟨h1, h2, h3, h4, h5, h6⟩)).mono fun e w' hh => ⟨bevR_all (n := w.heap.size) (b := b) hs ⟨fun _ => hh.1, fun h0 => absurd h0 hE⟩, hh.2⟩
theorem rBevelled_any (nm : ByteArray) (b : Bv) (w : World) (hs : nm.size ≤ 1000000000000) (hw : b.wf) :
    Calls Tryz.prog 17 #[.agg (bvC nm b)] w fun e w' => (∃ A c, e = .returned (.tuple #[.agg (joC (bvA nm b) A c), .int .i64 (bvE nm b)]) ∧ JoOk (bvA nm b) A c w'.heap.size w' ∧ (A = none → c = 0)) ∧ Below w.heap.size w w' := by
  by_cases h : nameB nm = true ∧ wi b.thick 1 20000 = true ∧ wi b.zone 0 20000 = true ∧ wi b.gap 0 20000 = true ∧ wi b.land 0 b.thick = true ∧ tanE b.tn b.td = 0
  · exact (rBev_fit nm b w hs hw h.1 h.2.1 h.2.2.1 h.2.2.2.1 h.2.2.2.2.1 h.2.2.2.2.2).mono fun e w' hh => ⟨bevR_all hs hh.1, hh.2⟩
  · have hE : bvE nm b ≠ 0 := bvE_ne h
    exact (rBev_bad nm b w hs hw (fun h1 h2 h3 h4 h5 h6 => h ⟨h1, h2, h3, h4, h5, h6⟩)).mono fun e w' hh => ⟨bevR_all (n := w.heap.size) (b := b) hs ⟨fun _ => hh.1, fun h0 => absurd h0 hE⟩, hh.2⟩

/-! ### a bevelled joint is right -/
theorem faceE_ok {before : List (ByteArray × Fc)} {nm : ByteArray} {f : Fc} {thick : Int} (h1 : nameB nm = true) (h2 : before.any (fun p => sameB p.1 nm) = false) (h3 : -20000 ≤ f.fx ∧ f.fx ≤ 20000) (h4 : -20000 ≤ f.tx ∧ f.tx ≤ 20000) (h5 : 0 ≤ f.fz ∧ f.fz ≤ thick) (h6 : 0 ≤ f.tz ∧ f.tz ≤ thick) (h7 : f.fz ≠ f.tz) : faceE before nm f thick = 0 := by
  rw [faceE_ref before nm f thick h1 h2]
  have a : ∀ n lo hi, lo ≤ n ∧ n ≤ hi → wi n lo hi = true := fun n lo hi h => by simp [wi, h]
  rw [a _ _ _ h3, a _ _ _ h4, a _ _ _ h5, a _ _ _ h6]
  simp
  intro _ h; exact h7 h
theorem facesE_cons {thick : Int} {i : Nat} {before l : List (ByteArray × Fc)} {p : ByteArray × Fc} (h : faceE before p.1 p.2 thick = 0) : facesE thick i before (p :: l) = facesE thick (i + 1) (before ++ [p]) l := by
  rw [facesE, if_pos h]
def nLL : ByteArray := (⟨#[108]⟩ : ByteArray) ++ (⟨#[45, 108, 97, 110, 100]⟩ : ByteArray)
def nLB : ByteArray := (⟨#[108]⟩ : ByteArray) ++ (⟨#[45, 98, 101, 118, 101, 108]⟩ : ByteArray)
def nRL : ByteArray := (⟨#[114]⟩ : ByteArray) ++ (⟨#[45, 108, 97, 110, 100]⟩ : ByteArray)
def nRB : ByteArray := (⟨#[114]⟩ : ByteArray) ++ (⟨#[45, 98, 101, 118, 101, 108]⟩ : ByteArray)
theorem nLL_name : nameB nLL = true := by decide +kernel
theorem nLB_name : nameB nLB = true := by decide +kernel
theorem nRL_name : nameB nRL = true := by decide +kernel
theorem nRB_name : nameB nRB = true := by decide +kernel
theorem n_1 : sameB nLL nLB = false := by decide +kernel
theorem n_2 : sameB nLL nRL = false := by decide +kernel
theorem n_3 : sameB nLL nRB = false := by decide +kernel
theorem n_4 : sameB nLB nRL = false := by decide +kernel
theorem n_5 : sameB nLB nRB = false := by decide +kernel
theorem n_6 : sameB nRL nRB = false := by decide +kernel
theorem bvJ_right {nm : ByteArray} {b : Bv} (h : bvE nm b = 0) : jointE (bvJ nm b) = (0, 0) := by
  obtain ⟨h1, t1, t2, t3, t4, t5, t6⟩ := bvE_zero h
  have T1 := t1; have T2 := t2; have T3 := t3; have T4 := t4
  simp only [wi, Bool.and_eq_true, decide_eq_true_eq] at T1 T2 T3 T4
  obtain ⟨y1, y2, y3, y4⟩ := tanE_zero t5
  have hw0 : 0 ≤ b.wide := by
    unfold Bv.wide Bv.depth
    have := Int.ediv_nonneg (Int.mul_nonneg (show 0 ≤ b.thick - b.land by omega) y1) (show 0 ≤ b.td by omega)
    omega
  have hdp : b.depth = b.thick - b.land := rfl
  have hlen : ¬ 12 < (bvJ nm b).fs.length := by
    have := bvH_length b 2
    have e : bvH b 2 = (bvJ nm b).fs := rfl
    rw [e] at this; omega
  have hj : jointE (bvJ nm b) = facesE b.thick 0 [] (bvJ nm b).fs := by
    unfold jointE
    rw [if_neg hlen]
    show (if !nameB nm then _ else if !(wi b.thick 1 20000) || !(wi b.zone 0 20000) then _ else _) = _
    rw [h1, t1, t2]; rfl
  rw [hj]
  by_cases hl : 0 < b.land
  · by_cases hd : 0 < b.depth
    · have hfs : (bvJ nm b).fs = [(nLL, ⟨-1 * b.gap, b.thick, -1 * b.gap, b.depth⟩), (nLB, ⟨-1 * b.gap, b.depth, -1 * b.wide, 0⟩), (nRL, ⟨1 * b.gap, b.thick, 1 * b.gap, b.depth⟩), (nRB, ⟨1 * b.gap, b.depth, 1 * b.wide, 0⟩)] := by
        show bvF b _ _ ++ bvF b _ _ = _
        unfold bvF
        rw [if_pos hl, if_pos hd, if_pos hl, if_pos hd]; rfl
      rw [hfs]
      rw [facesE_cons (faceE_ok nLL_name rfl (by dsimp only; omega) (by dsimp only; omega) (by dsimp only; omega) (by dsimp only; omega) (by dsimp only; omega)),
        facesE_cons (faceE_ok nLB_name (by simp [n_1]) (by dsimp only; omega) (by dsimp only; omega) (by dsimp only; omega) (by dsimp only; omega) (by dsimp only; omega)),
        facesE_cons (faceE_ok nRL_name (by simp [n_2, n_4]) (by dsimp only; omega) (by dsimp only; omega) (by dsimp only; omega) (by dsimp only; omega) (by dsimp only; omega)),
        facesE_cons (faceE_ok nRB_name (by simp [n_3, n_5, n_6]) (by dsimp only; omega) (by dsimp only; omega) (by dsimp only; omega) (by dsimp only; omega) (by dsimp only; omega))]
      rfl
    · have hfs : (bvJ nm b).fs = [(nLL, ⟨-1 * b.gap, b.thick, -1 * b.gap, b.depth⟩), (nRL, ⟨1 * b.gap, b.thick, 1 * b.gap, b.depth⟩)] := by
        show bvF b _ _ ++ bvF b _ _ = _
        unfold bvF
        rw [if_pos hl, if_neg hd, if_pos hl, if_neg hd]; rfl
      rw [hfs]
      rw [facesE_cons (faceE_ok nLL_name rfl (by dsimp only; omega) (by dsimp only; omega) (by dsimp only; omega) (by dsimp only; omega) (by dsimp only; omega)),
        facesE_cons (faceE_ok nRL_name (by simp [n_2]) (by dsimp only; omega) (by dsimp only; omega) (by dsimp only; omega) (by dsimp only; omega) (by dsimp only; omega))]
      rfl
  · have hd : 0 < b.depth := by omega
    have hfs : (bvJ nm b).fs = [(nLB, ⟨-1 * b.gap, b.depth, -1 * b.wide, 0⟩), (nRB, ⟨1 * b.gap, b.depth, 1 * b.wide, 0⟩)] := by
      show bvF b _ _ ++ bvF b _ _ = _
      unfold bvF
      rw [if_neg hl, if_pos hd, if_neg hl, if_pos hd]; rfl
    rw [hfs]
    rw [facesE_cons (faceE_ok nLB_name rfl (by dsimp only; omega) (by dsimp only; omega) (by dsimp only; omega) (by dsimp only; omega) (by dsimp only; omega)),
      facesE_cons (faceE_ok nRB_name (by simp [n_5]) (by dsimp only; omega) (by dsimp only; omega) (by dsimp only; omega) (by dsimp only; omega) (by dsimp only; omega))]
    rfl
end Go.Proofs.YtfbnpfhnffahdaaGreatDoor
