/- Contracts: few faces, copies of joints, equal joints. -/
import Derived.Test.YtlnkgjkjdllckaaGreatDoorZpCwG
import Derived.Test.YtlnkgjkjdllckaaGreatDoorZpCvZb
namespace Go.Proofs.YtlnkgjkjdllckaaGreatDoor
open Go.RowKit

/-- At most 4 faces, or too many, and short names. -/
def fewB (j : Jo) : Bool := !((decide (4 < j.fs.length) && decide (j.fs.length ≤ 12)) || decide (14 < j.fs.length) || decide (20 < j.nm.size)) && j.fs.all fun p => decide (p.1.size ≤ 20)

theorem facesC_cells {w : World} {fs : List (ByteArray × Fc)} {a : Addr} {B : Nat} (h : Row w B 5 (some a) fs.length (fcsC fs)) : ∀ j u, (fcsC fs)[j]? = some u → w.cell? (a.add j) = some u := by
  intro j u hu
  have hj : 0 < fs.length := by
    have h1 := (List.getElem?_eq_some_iff.1 hu).1
    have h2 := h.1
    omega
  obtain ⟨g, o, e, _, hc⟩ := h.2 hj
  cases e
  rw [Addr.add_lit]
  exact hc j u hu
theorem fcsC_one (fs : List (ByteArray × Fc)) : ∀ u ∈ fcsC fs, u.oneCell' = true := by
  intro u hu
  simp only [fcsC, List.mem_flatMap] at hu
  obtain ⟨p, _, hp⟩ := hu
  simp at hp
  rcases hp with rfl | rfl | rfl | rfl | rfl <;> rfl

set_option maxRecDepth 100000 in
set_option maxHeartbeats 1000000 in
theorem copyJoint_any (j : Jo) (A : Option Addr) (c B : Nat) (w : World) (hj : JoOk j A c B w) (hA : A = none → c = 0) (hl : j.fs.length ≤ 1000000000) :
    Calls Tryz.prog 8 #[.agg (joC j A c)] w fun e w' => ∃ v, e = .returned (.agg #[.string j.nm, .int .i64 j.thick, .int .i64 j.zone, v]) ∧ w'.ownsRow w.heap.size 100 5 v j.fs.length (fcsC j.fs) ∧ Below w.heap.size w w' := by
  obtain ⟨k1, k2, k3, k4, hR, hB⟩ := hj
  obtain ⟨i0, hi, hz0, hz1, hz2⟩ := info_parts infoFace
  unfold joC
  have own : (((w.alloc (.cells #[.string j.nm, .int .i64 j.thick, .int .i64 j.zone, .slice A j.fs.length c] 24)).alloc (.cells #[.string ⟨#[]⟩, .int .i64 0, .int .i64 0, .slice none 0 0] 24)).alloc (.cells #[] 100)).ownsRow (w.heap.size + 2) 100 5 (.slice (some ⟨w.heap.size + 1 + 1, 0, none⟩) 0 0) 0 [] := by
    have h := World.ownsRow_made (base := w.heap.size + 2) (e := 100) (size := 5) ((w.alloc (.cells #[.string j.nm, .int .i64 j.thick, .int .i64 j.zone, .slice A j.fs.length c] 24)).alloc (.cells #[.string ⟨#[]⟩, .int .i64 0, .int .i64 0, .slice none 0 0] 24)) #[] 0 (by simp) (by simp [maxLen]) (by simp)
    simpa using h
  have bx := ((Blk.new w 24 #[.string j.nm, .int .i64 j.thick, .int .i64 j.zone, .slice A j.fs.length c]).alloc (.cells #[.string ⟨#[]⟩, .int .i64 0, .int .i64 0, .slice none 0 0] 24)).alloc (.cells #[] 100)
  have br := (Blk.new' (w.alloc (.cells #[.string j.nm, .int .i64 j.thick, .int .i64 j.zone, .slice A j.fs.length c] 24)) 24 #[.string ⟨#[]⟩, .int .i64 0, .int .i64 0, .slice none 0 0] (g := w.heap.size + 1) (by simp)).alloc (.cells #[] 100)
  have hB3 : Below w.heap.size w (((w.alloc (.cells #[.string j.nm, .int .i64 j.thick, .int .i64 j.zone, .slice A j.fs.length c] 24)).alloc (.cells #[.string ⟨#[]⟩, .int .i64 0, .int .i64 0, .slice none 0 0] 24)).alloc (.cells #[] 100)) := (((Below.refl _ _).alloc (Nat.le_refl _) _).alloc (by simp) _).alloc (by simp; omega) _
  cases A with
  | none =>
    have h0 : j.fs.length = 0 := by
      rcases Nat.eq_zero_or_pos j.fs.length with h | h
      · exact h
      · obtain ⟨_, _, h, _⟩ := hR.2 h; cases h
    have hn : j.fs = [] := List.eq_nil_of_length_eq_zero h0
    have hc0 := hA rfl
    subst hc0
    rw [h0] at own bx br hB3 ⊢
    rw [hn]
    go_enter Tryz.func8, Tryz.ntmps8
    go_wp2_with (at_builtin; refine wpList_append_own_none rfl _ _ 22 rfl (w.heap.size + 2) 100 i0 5 Tryz.underlying22 hi _ _ _ rfl own rfl ?_)
    have hfin : (((w.alloc (.cells #[.string j.nm, .int .i64 j.thick, .int .i64 j.zone, .slice (some ⟨w.heap.size + 1 + 1, 0, none⟩) 0 0] 24)).alloc (.cells #[.string j.nm, .int .i64 j.thick, .int .i64 j.zone, .slice (some ⟨w.heap.size + 1 + 1, 0, none⟩) 0 0] 24)).alloc (.cells #[] 100)).ownsRow w.heap.size 100 5 (.slice (some ⟨w.heap.size + 1 + 1, 0, none⟩) 0 0) 0 [] := by
      have h := World.ownsRow_made (base := w.heap.size) (e := 100) (size := 5) ((w.alloc (.cells #[.string j.nm, .int .i64 j.thick, .int .i64 j.zone, .slice (some ⟨w.heap.size + 1 + 1, 0, none⟩) 0 0] 24)).alloc (.cells #[.string j.nm, .int .i64 j.thick, .int .i64 j.zone, .slice (some ⟨w.heap.size + 1 + 1, 0, none⟩) 0 0] 24)) #[] 0 (by simp; omega) (by simp [maxLen]) (by simp)
      simpa using h
    exact bodyPost_ret (v := .agg #[.string j.nm, .int .i64 j.thick, .int .i64 j.zone, .slice (some ⟨w.heap.size + 1 + 1, 0, none⟩) 0 0]) (by simp [results, Tryz.results8, go_sem]) rfl ⟨_, rfl, hfin, (((Below.refl _ _).alloc (Nat.le_refl _) _).alloc (by simp) _).alloc (by simp; omega) _⟩
  | some a =>
    go_enter Tryz.func8, Tryz.ntmps8
    go_wp2_with (at_builtin; refine wpList_append_own _ rfl _ _ 22 rfl (w.heap.size + 2) 100 i0 (.agg #[.string ⟨#[]⟩, .int .i64 0, .int .i64 0, .int .i64 0, .int .i64 0]) 5 48 Tryz.underlying22 hi hz0 hz1 hz2 rfl (by decide) _ _ _ rfl own a j.fs.length c (fcsC j.fs) rfl (fcsC_length _) ?c1 ?c2 ?c3 ?c4 ?c5 ?_)
    try
      case c1 => exact facesC_cells (((hR.alloc hB _).alloc (by simp; omega) _).alloc (by simp; omega) _)
    try
      case c2 => exact fcsC_one j.fs
    try
      case c3 => unfold maxLen; omega
    try
      case c4 => omega
    try
      case c5 => simp
    intro v3 w3 own3 hgrow _
    obtain ⟨A3, c3, hv3, _, _⟩ := own_shape own3
    subst hv3
    have bx3 := bx.grown hgrow (own_ne own (.inl (by omega)))
    have br3 := br.grown hgrow (own_ne own (.inl (by omega)))
    have hB4 : Below w.heap.size w w3 := below_own hB3 (by omega) own hgrow
    try simp only [Nat.zero_add, List.nil_append] at own3
    have lx := bx3.lt
    have lr := br3.lt
    obtain ⟨x0, x1, x2, x3, xf⟩ := blk4 bx3
    obtain ⟨d0, d1, d2, d3, df⟩ := blk4 br3
    have br9 := br3.far (p := ⟨w.heap.size, 3, none⟩) (by simp) (.slice A3 j.fs.length c3)
    have e6 := Blk.set4 br9 (.string j.nm) (.int .i64 j.thick) (.int .i64 j.zone) (.slice A3 j.fs.length c3)
    obtain ⟨z0, z1, z2, z3, _⟩ := blk4 e6
    have hrow := (own_set (own_set (own_set (own_set (own_set own3 (p := ⟨w.heap.size, 3, none⟩) (by simp) (.slice A3 j.fs.length c3)) (p := ⟨w.heap.size + 1, 0, none⟩) (by simp) (.string j.nm)) (p := ⟨w.heap.size + 1, 1, none⟩) (by simp) (.int .i64 j.thick)) (p := ⟨w.heap.size + 1, 2, none⟩) (by simp) (.int .i64 j.zone)) (p := ⟨w.heap.size + 1, 3, none⟩) (by simp) (.slice A3 j.fs.length c3)).mono (base' := w.heap.size) (by omega)
    go_wp2
    refine bodyPost_ret (v := .agg #[.string j.nm, .int .i64 j.thick, .int .i64 j.zone, (.slice A3 j.fs.length c3)]) ?_ rfl ⟨_, rfl, hrow, Below.set4 (hB4.setCell (Nat.le_refl _) _) (by omega)⟩
    simp [results, Tryz.results8, go_sem, z0, z1, z2, z3]

theorem few_bad1 {j : Jo} (h1 : 4 < j.fs.length) (h2 : j.fs.length ≤ 12) : fewB j = false := by unfold fewB; simp [h1, h2]
theorem few_bad2 {j : Jo} (h1 : 14 < j.fs.length) : fewB j = false := by unfold fewB; simp [h1]
theorem few_bad3 {j : Jo} (h1 : 20 < j.nm.size) : fewB j = false := by unfold fewB; simp [h1]
theorem few_all {j : Jo} (h1 : ¬ (4 < j.fs.length ∧ j.fs.length ≤ 12)) (h2 : ¬ 14 < j.fs.length) (h3 : ¬ 20 < j.nm.size) : fewB j = j.fs.all fun p => decide (p.1.size ≤ 20) := by
  unfold fewB
  have a1 : (decide (4 < j.fs.length) && decide (j.fs.length ≤ 12)) = false := by
    cases h : (decide (4 < j.fs.length) && decide (j.fs.length ≤ 12))
    · rfl
    · exact absurd (by simpa using h) h1
  rw [a1]; simp [h2, h3]

set_option maxRecDepth 100000 in
set_option maxHeartbeats 1000000 in
theorem few_any (j : Jo) (A : Option Addr) (c B : Nat) (w : World) (hR : Row w B 5 A j.fs.length (fcsC j.fs)) (hB : B ≤ w.heap.size) :
    Calls Tryz.prog 19 #[.agg (joC j A c)] w fun e w' => e = .returned (.bool (fewB j)) ∧ Below w.heap.size w w' := by
  unfold joC
  by_cases q1 : 4 < j.fs.length ∧ j.fs.length ≤ 12
  · have HE := Lib.hid (few_bad1 q1.1 q1.2)
    have i1 : (4 : Int) < (j.fs.length : Int) := by omega
    have i2 : (j.fs.length : Int) ≤ 12 := by omega
    go_enter Tryz.func19, Tryz.ntmps19
    go_wp2
    go_ret
    exact ⟨by rw [HE.out]; rfl, (by repeat (first | (with_reducible exact Below.refl _ _) | (with_reducible assumption) | ((with_reducible refine Below.setCell ?_ ?_ _); rotate_left; · (first | exact Nat.le_refl _ | (simp; done) | (simp; omega) | omega)) | ((with_reducible refine Below.alloc ?_ ?_ _); rotate_left; · (first | exact Nat.le_refl _ | (simp; done) | (simp; omega) | omega)) | (with_reducible apply Below.drew) | (with_reducible apply below_drewN') | (refine Below.trans ?_ (Below.mono (by assumption) (by first | exact Nat.le_refl _ | (simp; done) | (simp; omega) | omega))) | exact Below.refl _ _ | assumption))⟩
  · by_cases q2 : 14 < j.fs.length
    · have HE := Lib.hid (few_bad2 q2)
      have i1 : (4 : Int) < (j.fs.length : Int) := by omega
      have i2 : (12 : Int) < (j.fs.length : Int) := by omega
      have i3 : (14 : Int) < (j.fs.length : Int) := by omega
      go_enter Tryz.func19, Tryz.ntmps19
      go_wp2
      go_ret
      exact ⟨by rw [HE.out]; rfl, (by repeat (first | (with_reducible exact Below.refl _ _) | (with_reducible assumption) | ((with_reducible refine Below.setCell ?_ ?_ _); rotate_left; · (first | exact Nat.le_refl _ | (simp; done) | (simp; omega) | omega)) | ((with_reducible refine Below.alloc ?_ ?_ _); rotate_left; · (first | exact Nat.le_refl _ | (simp; done) | (simp; omega) | omega)) | (with_reducible apply Below.drew) | (with_reducible apply below_drewN') | (refine Below.trans ?_ (Below.mono (by assumption) (by first | exact Nat.le_refl _ | (simp; done) | (simp; omega) | omega))) | exact Below.refl _ _ | assumption))⟩
    · by_cases q3 : 20 < j.nm.size
      · have HE := Lib.hid (few_bad3 q3)
        have i4 : (20 : Int) < (j.nm.size : Int) := by omega
        have i3 : (j.fs.length : Int) ≤ 14 := by omega
        by_cases q4 : 4 < j.fs.length
        · have i1 : (4 : Int) < (j.fs.length : Int) := by omega
          have i2 : (12 : Int) < (j.fs.length : Int) := by omega
          go_enter Tryz.func19, Tryz.ntmps19
          go_wp2
          go_ret
          exact ⟨by rw [HE.out]; rfl, (by repeat (first | (with_reducible exact Below.refl _ _) | (with_reducible assumption) | ((with_reducible refine Below.setCell ?_ ?_ _); rotate_left; · (first | exact Nat.le_refl _ | (simp; done) | (simp; omega) | omega)) | ((with_reducible refine Below.alloc ?_ ?_ _); rotate_left; · (first | exact Nat.le_refl _ | (simp; done) | (simp; omega) | omega)) | (with_reducible apply Below.drew) | (with_reducible apply below_drewN') | (refine Below.trans ?_ (Below.mono (by assumption) (by first | exact Nat.le_refl _ | (simp; done) | (simp; omega) | omega))) | exact Below.refl _ _ | assumption))⟩
        · have i1 : (j.fs.length : Int) ≤ 4 := by omega
          go_enter Tryz.func19, Tryz.ntmps19
          go_wp2
          go_ret
          exact ⟨by rw [HE.out]; rfl, (by repeat (first | (with_reducible exact Below.refl _ _) | (with_reducible assumption) | ((with_reducible refine Below.setCell ?_ ?_ _); rotate_left; · (first | exact Nat.le_refl _ | (simp; done) | (simp; omega) | omega)) | ((with_reducible refine Below.alloc ?_ ?_ _); rotate_left; · (first | exact Nat.le_refl _ | (simp; done) | (simp; omega) | omega)) | (with_reducible apply Below.drew) | (with_reducible apply below_drewN') | (refine Below.trans ?_ (Below.mono (by assumption) (by first | exact Nat.le_refl _ | (simp; done) | (simp; omega) | omega))) | exact Below.refl _ _ | assumption))⟩
      · have HE := Lib.hid (few_all q1 q2 q3)
        have i4 : (j.nm.size : Int) ≤ 20 := by omega
        have i3 : (j.fs.length : Int) ≤ 14 := by omega
        go_enter Tryz.func19, Tryz.ntmps19
        go_upto_region 1 with fail
        go_cut [25] (fun s25 wx => s25 = .bool false ∧ wx = w.alloc (.cells (joC j A c) 24))
        case first =>
          by_cases q4 : 4 < j.fs.length
          · have i1 : (4 : Int) < (j.fs.length : Int) := by omega
            have i2 : (12 : Int) < (j.fs.length : Int) := by omega
            have d1 : decide ((j.fs.length : Int) ≤ 12) = false := by simp; omega
            have d2 : decide (14 < (j.fs.length : Int)) = false := by simp; omega
            have d3 : decide (20 < (j.nm.size : Int)) = false := by simp; omega
            go_wp2
            go_meet
            exact ⟨rfl, rfl⟩
          · have i1 : (j.fs.length : Int) ≤ 4 := by omega
            have d2 : decide (14 < (j.fs.length : Int)) = false := by simp; omega
            have d3 : decide (20 < (j.nm.size : Int)) = false := by simp; omega
            go_wp2
            go_meet
            exact ⟨rfl, rfl⟩
        case rest =>
          obtain ⟨rfl, rfl⟩ := hcut
          go_wp2
          go_loopw [3] (fun i wr => ∃ k : Nat, k ≤ j.fs.length ∧ i = .int .i64 k ∧ Hid ((j.fs.take k).all (fun p => decide (p.1.size ≤ 20)) = true) ∧ Blk wr w.heap.size 24 (joC j A c) ∧ Below w.heap.size w wr) (fun i _ => j.fs.length - (intOf i).toNat)
          case atStart => exact ⟨0, Nat.zero_le _, rfl, rfl, Blk.new _ _ _, (Below.refl _ _).alloc (Nat.le_refl _) _⟩
          case round =>
            obtain ⟨k, hk, rfl, HK, b1, hBr⟩ := hrel
            have lb := b1.lt
            obtain ⟨q0, q1, q2, q3⟩ := jo_cells b1
            by_cases hlt : k < j.fs.length
            · obtain ⟨g, o, hA, hg, c0, _⟩ := faceCells (hR.below hBr hB) hlt
              subst hA
              have hsr := Below.size hBr
              have lg : g < wr.heap.size := by omega
              have HT : Hid ((j.fs.take (k + 1)).all (fun p => decide (p.1.size ≤ 20)) = decide (j.fs[k].1.size ≤ 20)) := Lib.hid (by rw [List.take_succ_eq_append_getElem hlt, List.all_append, HK.out]; simp)
              have HM : Hid (¬ j.fs[k].1.size ≤ 20 → j.fs.all (fun p => decide (p.1.size ≤ 20)) = false) := Lib.hid fun h => by
                cases hh : j.fs.all (fun p => decide (p.1.size ≤ 20))
                · rfl
                · exact absurd (by simpa using List.all_eq_true.1 hh _ (List.getElem_mem hlt)) h
              by_cases h5 : 20 < j.fs[k].1.size
              · have i5 : (20 : Int) < (j.fs[k].1.size : Int) := by omega
                have HF : Hid (fewB j = false) := Lib.hid (by rw [HE.out, HM.out (by omega)])
                go_wp2
                go_ret
                exact ⟨by rw [HF.out]; rfl, hBr⟩
              · have i5 : (j.fs[k].1.size : Int) ≤ 20 := by omega
                have h6 : j.fs[k].1.size ≤ 20 := by omega
                have HT2 : Hid ((j.fs.take (k + 1)).all (fun p => decide (p.1.size ≤ 20)) = true) := Lib.hid (by rw [HT.out]; simpa using h6)
                go_wp2
                go_roundw
                case rel => exact ⟨k + 1, by omega, by go_num, HT2, b1, hBr⟩
                case measure => simp [intOf]; omega
            · obtain rfl : k = j.fs.length := by omega
              have HF : Hid (fewB j = true) := Lib.hid (by rw [HE.out]; have := HK.out; rw [List.take_length] at this; exact this)
              go_wp2
              go_ret
              exact ⟨by rw [HF.out]; rfl, hBr⟩
end Go.Proofs.YtlnkgjkjdllckaaGreatDoor
