/- Contract: the reference's Bevelled, the same as the program's. -/
import Derived.Test.YtfbnpfhnffahdaaGreatDoorCvZb
import Derived.Test.YtfbnpfhnffahdaaGreatDoorCwA
namespace Go.Proofs.YtfbnpfhnffahdaaGreatDoor
open Go.RowKit

/-- Three rows made one behind the other. -/
theorem three_new {wc w1 w2 w3 w4 : World} {t1 t2 t3 : TypeId} {c1 c2 c3 : Array Value} (h1 : Gr wc w1) (h2 : Gr (w1.alloc (.cells c1 t1)) w2) (h3 : Gr (w2.alloc (.cells c2 t2)) w3) (h4 : Gr (w3.alloc (.cells c3 t3)) w4) :
    Blk w4 w1.heap.size t1 c1 ∧ Blk w4 w2.heap.size t2 c2 ∧ Blk w4 w3.heap.size t3 c3 ∧ (w1.heap.size ≠ w2.heap.size ∧ w1.heap.size ≠ w3.heap.size ∧ w2.heap.size ≠ w3.heap.size) ∧ (wc.heap.size ≤ w1.heap.size ∧ wc.heap.size ≤ w2.heap.size ∧ wc.heap.size ≤ w3.heap.size) := by
  have e1 : w1.heap.size < w2.heap.size := ((Blk.new w1 t1 c1).gr h2).lt
  have e2 : w2.heap.size < w3.heap.size := ((Blk.new w2 t2 c2).gr h3).lt
  have e0 := Below.size h1
  exact ⟨(((((Blk.new w1 t1 c1).gr h2).alloc _).gr h3).alloc _).gr h4, (((Blk.new w2 t2 c2).gr h3).alloc _).gr h4, (Blk.new w3 t3 c3).gr h4, ⟨by omega, by omega, by omega⟩, by omega, by omega, by omega⟩
theorem Blk.far2 {g p : Nat} {b : World} {t : TypeId} {cs : Array Value} (h : Blk b g t cs) (hp : g ≠ p) (u0 u1 : Value) : Blk ((b.setCell ⟨p, 0, none⟩ u0).setCell ⟨p, 1, none⟩ u1) g t cs := (h.far (p := ⟨p, 0, none⟩) hp u0).far (p := ⟨p, 1, none⟩) hp u1
theorem Blk.put2 {g : Nat} {b : World} {t : TypeId} {v0 v1 : Value} (h : Blk b g t #[v0, v1]) (u0 u1 : Value) : Blk ((b.setCell ⟨g, 0, none⟩ u0).setCell ⟨g, 1, none⟩ u1) g t #[u0, u1] := (h.set_ 0 u0).set_ 1 u1
/-- Three pairs stored into three rows. -/
theorem three_set {w4 w5 w6 w7 : World} {a b c : Nat} {t t' t'' : TypeId} {u0 u1 v0 v1 z0 z1 x0 x1 y0 y1 s0 s1 : Value} (ha : Blk w4 a t #[u0, u1]) (hb : Blk w4 b t' #[v0, v1]) (hc : Blk w4 c t'' #[z0, z1]) (hab : a ≠ b) (hac : a ≠ c) (hbc : b ≠ c)
    (h5 : Gr ((w4.setCell ⟨a, 0, none⟩ x0).setCell ⟨a, 1, none⟩ x1) w5) (h6 : Gr ((w5.setCell ⟨b, 0, none⟩ y0).setCell ⟨b, 1, none⟩ y1) w6) (h7 : Gr ((w6.setCell ⟨c, 0, none⟩ s0).setCell ⟨c, 1, none⟩ s1) w7) :
    Blk w7 a t #[x0, x1] ∧ Blk w7 b t' #[y0, y1] ∧ Blk w7 c t'' #[s0, s1] := by
  have a5 := Blk.gr (ha.put2 x0 x1) h5
  have b5 := Blk.gr (hb.far2 (Ne.symm hab) x0 x1) h5
  have c5 := Blk.gr (hc.far2 (Ne.symm hac) x0 x1) h5
  have a6 := Blk.gr (a5.far2 hab y0 y1) h6
  have b6 := Blk.gr (b5.put2 y0 y1) h6
  have c6 := Blk.gr (c5.far2 (Ne.symm hbc) y0 y1) h6
  exact ⟨Blk.gr (a6.far2 hac s0 s1) h7, Blk.gr (b6.far2 hbc s0 s1) h7, Blk.gr (c6.put2 s0 s1) h7⟩

set_option maxRecDepth 100000 in
set_option maxHeartbeats 2000000 in
theorem rBev_bad (nm : ByteArray) (b : Bv) (w : World) (hs : nm.size ≤ 1000000000000) (hw : b.wf) (hT : nameB nm = true → wi b.thick 1 20000 = true → wi b.zone 0 20000 = true → wi b.gap 0 20000 = true → wi b.land 0 b.thick = true → ¬ tanE b.tn b.td = 0) :
    Calls Tryz.prog 17 #[.agg (bvC nm b)] w fun e w' => e = .returned (.tuple #[noJo, .int .i64 (bvE nm b)]) ∧ Below w.heap.size w w' := by
  unfold bvC
  cases h1 : nameB nm
  · have H1 := Lib.hid h1; clear h1
    have HE : Hid (bvE nm b = 4) := by unfold bvE; rw [H1.out]; rfl
    go_enter Tryz.func17, Tryz.ntmps17
    go_wp2_with (go_at_call 59; refine (bIsName_any _ _ hs).mono ?_; rw [H1.out]; rintro e w1 ⟨rfl, rfl⟩)
    refine bodyPost_ret (v := .tuple #[noJo, .int .i64 4]) ?_ rfl ⟨by rw [HE.out], (by repeat (first | (with_reducible exact Below.refl _ _) | (with_reducible assumption) | ((with_reducible refine Below.setCell ?_ ?_ _); rotate_left; · (first | exact Nat.le_refl _ | (simp; done) | (simp; omega) | omega)) | ((with_reducible refine Below.alloc ?_ ?_ _); rotate_left; · (first | exact Nat.le_refl _ | (simp; done) | (simp; omega) | omega)) | (with_reducible apply Below.drew) | (with_reducible apply below_drewN') | (refine Below.trans ?_ (Below.mono (by assumption) (by first | exact Nat.le_refl _ | (simp; done) | (simp; omega) | omega))) | exact Below.refl _ _ | assumption))⟩
    simp [results, Tryz.results17, go_sem, noJo]
  · have H1 := Lib.hid h1; clear h1
    cases t1 : wi b.thick 1 20000
    · have HE : Hid (bvE nm b = 2) := by unfold bvE bvB; rw [H1.out, t1]; rfl
      go_enter Tryz.func17, Tryz.ntmps17
      go_wp2_with (first | (go_at_call 59; refine (bIsName_any _ _ hs).mono ?_; rw [H1.out]; rintro e w1 ⟨rfl, rfl⟩) | (go_at_call 20; refine (bWithin_any _ _ _ _).mono ?_; rintro e w1 ⟨rfl, rfl⟩))
      refine bodyPost_ret (v := .tuple #[noJo, .int .i64 2]) ?_ rfl ⟨by rw [HE.out], (by repeat (first | (with_reducible exact Below.refl _ _) | (with_reducible assumption) | ((with_reducible refine Below.setCell ?_ ?_ _); rotate_left; · (first | exact Nat.le_refl _ | (simp; done) | (simp; omega) | omega)) | ((with_reducible refine Below.alloc ?_ ?_ _); rotate_left; · (first | exact Nat.le_refl _ | (simp; done) | (simp; omega) | omega)) | (with_reducible apply Below.drew) | (with_reducible apply below_drewN') | (refine Below.trans ?_ (Below.mono (by assumption) (by first | exact Nat.le_refl _ | (simp; done) | (simp; omega) | omega))) | exact Below.refl _ _ | assumption))⟩
      simp [results, Tryz.results17, go_sem, noJo]
    · cases t2 : wi b.zone 0 20000
      · have HE : Hid (bvE nm b = 2) := by unfold bvE bvB; rw [H1.out, t1, t2]; rfl
        go_enter Tryz.func17, Tryz.ntmps17
        go_wp2_with (first | (go_at_call 59; refine (bIsName_any _ _ hs).mono ?_; rw [H1.out]; rintro e w1 ⟨rfl, rfl⟩) | (go_at_call 20; refine (bWithin_any _ _ _ _).mono ?_; rintro e w1 ⟨rfl, rfl⟩))
        refine bodyPost_ret (v := .tuple #[noJo, .int .i64 2]) ?_ rfl ⟨by rw [HE.out], (by repeat (first | (with_reducible exact Below.refl _ _) | (with_reducible assumption) | ((with_reducible refine Below.setCell ?_ ?_ _); rotate_left; · (first | exact Nat.le_refl _ | (simp; done) | (simp; omega) | omega)) | ((with_reducible refine Below.alloc ?_ ?_ _); rotate_left; · (first | exact Nat.le_refl _ | (simp; done) | (simp; omega) | omega)) | (with_reducible apply Below.drew) | (with_reducible apply below_drewN') | (refine Below.trans ?_ (Below.mono (by assumption) (by first | exact Nat.le_refl _ | (simp; done) | (simp; omega) | omega))) | exact Below.refl _ _ | assumption))⟩
        simp [results, Tryz.results17, go_sem, noJo]
      · cases t3 : wi b.gap 0 20000
        · have HE : Hid (bvE nm b = 2) := by unfold bvE bvB; rw [H1.out, t1, t2, t3]; rfl
          go_enter Tryz.func17, Tryz.ntmps17
          go_wp2_with (first | (go_at_call 59; refine (bIsName_any _ _ hs).mono ?_; rw [H1.out]; rintro e w1 ⟨rfl, rfl⟩) | (go_at_call 20; refine (bWithin_any _ _ _ _).mono ?_; rintro e w1 ⟨rfl, rfl⟩))
          refine bodyPost_ret (v := .tuple #[noJo, .int .i64 2]) ?_ rfl ⟨by rw [HE.out], (by repeat (first | (with_reducible exact Below.refl _ _) | (with_reducible assumption) | ((with_reducible refine Below.setCell ?_ ?_ _); rotate_left; · (first | exact Nat.le_refl _ | (simp; done) | (simp; omega) | omega)) | ((with_reducible refine Below.alloc ?_ ?_ _); rotate_left; · (first | exact Nat.le_refl _ | (simp; done) | (simp; omega) | omega)) | (with_reducible apply Below.drew) | (with_reducible apply below_drewN') | (refine Below.trans ?_ (Below.mono (by assumption) (by first | exact Nat.le_refl _ | (simp; done) | (simp; omega) | omega))) | exact Below.refl _ _ | assumption))⟩
          simp [results, Tryz.results17, go_sem, noJo]
        · cases t4 : wi b.land 0 b.thick
          · have HE : Hid (bvE nm b = 2) := by unfold bvE bvB; rw [H1.out, t1, t2, t3, t4]; rfl
            go_enter Tryz.func17, Tryz.ntmps17
            go_wp2_with (first | (go_at_call 59; refine (bIsName_any _ _ hs).mono ?_; rw [H1.out]; rintro e w1 ⟨rfl, rfl⟩) | (go_at_call 20; refine (bWithin_any _ _ _ _).mono ?_; rintro e w1 ⟨rfl, rfl⟩))
            refine bodyPost_ret (v := .tuple #[noJo, .int .i64 2]) ?_ rfl ⟨by rw [HE.out], (by repeat (first | (with_reducible exact Below.refl _ _) | (with_reducible assumption) | ((with_reducible refine Below.setCell ?_ ?_ _); rotate_left; · (first | exact Nat.le_refl _ | (simp; done) | (simp; omega) | omega)) | ((with_reducible refine Below.alloc ?_ ?_ _); rotate_left; · (first | exact Nat.le_refl _ | (simp; done) | (simp; omega) | omega)) | (with_reducible apply Below.drew) | (with_reducible apply below_drewN') | (refine Below.trans ?_ (Below.mono (by assumption) (by first | exact Nat.le_refl _ | (simp; done) | (simp; omega) | omega))) | exact Below.refl _ _ | assumption))⟩
            simp [results, Tryz.results17, go_sem, noJo]
          · have HE : Hid (bvE nm b = if tanE b.tn b.td ≠ 0 then tanE b.tn b.td else if 20000 < b.wide then 8 else 0) := by unfold bvE bvB; rw [H1.out, t1, t2, t3, t4]; rfl
            have h5 : ¬ tanE b.tn b.td = 0 := hT H1.out t1 t2 t3 t4
            have h5' : (tanE b.tn b.td != 0) = true := by simpa using h5
            have HE2 : Hid (bvE nm b = tanE b.tn b.td) := Lib.hid (by rw [HE.out, if_pos h5])
            clear h5
            go_enter Tryz.func17, Tryz.ntmps17
            go_wp2_with (first | (go_at_call 59; refine (bIsName_any _ _ hs).mono ?_; rw [H1.out]; rintro e w1 ⟨rfl, rfl⟩) | (go_at_call 20; refine (bWithin_any _ _ _ _).mono ?_; rintro e w1 ⟨rfl, rfl⟩) | fail)
            refine (rTangentErr_any b.tn b.td hw.tn hw.td _).mono ?_
            rintro e w2 ⟨rfl, hB2⟩
            have br0 := Blk.new' (w.alloc (.cells (bvC nm b) 28)) 24 #[.string ⟨#[]⟩, .int .i64 0, .int .i64 0, .slice none 0 0] (g := w.heap.size + 1) (by simp)
            have hBB : Below w.heap.size w ((w.alloc (.cells (bvC nm b) 28)).alloc (.cells #[.string ⟨#[]⟩, .int .i64 0, .int .i64 0, .slice none 0 0] 24)) := ((Below.refl _ _).alloc (Nat.le_refl _) _).alloc (by simp) _
            have br2 := br0.below hB2 br0.lt
            have lr2 := br2.lt
            have hBC := hBB.trans (hB2.mono (Below.size hBB))
            obtain ⟨d0, d1, d2, d3, df⟩ := blk4 br2
            clear hB2 br0 hBB
            have e6 := Blk.set4 br2 (.string ⟨#[]⟩) (.int .i64 0) (.int .i64 0) (.slice none 0 0)
            obtain ⟨z0, z1, z2, z3, _⟩ := blk4 e6
            go_wp2
            refine bodyPost_ret (v := .tuple #[noJo, .int .i64 (tanE b.tn b.td)]) ?_ rfl ⟨by rw [HE2.out], Below.set4 hBC (by omega)⟩
            simp [results, Tryz.results17, go_sem, z0, z1, z2, z3, noJo]

set_option maxRecDepth 100000 in
set_option maxHeartbeats 4000000 in
theorem rBev_fit (nm : ByteArray) (b : Bv) (w : World) (hs : nm.size ≤ 1000000000000) (hw : b.wf) (h1 : nameB nm = true) (t1 : wi b.thick 1 20000 = true) (t2 : wi b.zone 0 20000 = true) (t3 : wi b.gap 0 20000 = true) (t4 : wi b.land 0 b.thick = true) (h5 : tanE b.tn b.td = 0) :
    Calls Tryz.prog 17 #[.agg (bvC nm b)] w fun e w' => BevR nm b w.heap.size e w' ∧ Below w.heap.size w w' := by
  have H1 := Lib.hid h1; clear h1
  have HE : Hid (bvE nm b = if 20000 < b.wide then 8 else 0) := by unfold bvE bvB; rw [H1.out, t1, t2, t3, t4, h5]; rfl
  obtain ⟨i0, hi, hz0, hz1, hz2⟩ := info_parts infoFace
  unfold bvC
  have h5' : (tanE b.tn b.td != 0) = false := by simpa using h5
  obtain ⟨y1, y2, y3, y4⟩ := tanE_zero h5
  clear h5
  have T1 := t1; have T2 := t2; have T3 := t3; have T4 := t4
  simp only [wi, Bool.and_eq_true, decide_eq_true_eq] at T1 T2 T3 T4
  have m1 := mul_bd (b.thick - b.land) b.tn 20000 100 (by omega) (by omega)
  have m2 : 0 ≤ (b.thick - b.land) * b.tn := Int.mul_nonneg (by omega) (by omega)
  have m3 : ((b.thick - b.land) * b.tn).tdiv b.td = (b.thick - b.land) * b.tn / b.td := Int.tdiv_eq_ediv_of_nonneg m2
  have m4 : 0 ≤ (b.thick - b.land) * b.tn / b.td := Int.ediv_nonneg m2 (by omega)
  have m5 : (b.thick - b.land) * b.tn / b.td ≤ 2000000 := Int.le_trans (Int.ediv_le_self _ m2) (by omega)
  have m7 : (b.td == 0) = false := by simp; omega
  have m7b : ¬ b.td = 0 := by omega
  have m7c : b.td ≠ 0 := by omega
  have m9 : b.thick - b.land = 0 → b.gap + (b.thick - b.land) * b.tn / b.td ≤ 20000 := fun h => by rw [h]; simp; omega
  go_enter Tryz.func17, Tryz.ntmps17
  go_wp2_with (first | (go_at_call 59; refine (bIsName_any _ _ hs).mono ?_; rw [H1.out]; rintro e w1 ⟨rfl, rfl⟩) | (go_at_call 20; refine (bWithin_any _ _ _ _).mono ?_; rintro e w1 ⟨rfl, rfl⟩) | fail)
  refine (rTangentErr_any b.tn b.td hw.tn hw.td _).mono ?_
  rintro e w2 ⟨rfl, hB2⟩
  have bb0 := (Blk.new w 28 (bvC nm b)).alloc (.cells #[.string ⟨#[]⟩, .int .i64 0, .int .i64 0, .slice none 0 0] 24 (0, 0))
  have br0 := Blk.new' (w.alloc (.cells (bvC nm b) 28)) 24 #[.string ⟨#[]⟩, .int .i64 0, .int .i64 0, .slice none 0 0] (g := w.heap.size + 1) (by simp)
  have hBB : Below w.heap.size w ((w.alloc (.cells (bvC nm b) 28)).alloc (.cells #[.string ⟨#[]⟩, .int .i64 0, .int .i64 0, .slice none 0 0] 24)) := ((Below.refl _ _).alloc (Nat.le_refl _) _).alloc (by simp) _
  have br2 := br0.below hB2 br0.lt
  have bb2 := bb0.below hB2 bb0.lt
  have lr2 := br2.lt
  have hBC := hBB.trans (hB2.mono (Below.size hBB))
  clear hB2 br0 bb0 hBB
  obtain ⟨c0, c1, c2, c3, c4, c5, c6⟩ := bv_cells bb2
  have lb2 := bb2.lt
  go_wp2_with fail
  refine wp_region_b 17 (by kernel_rfl) (by kernel_rfl) ?_; simp only [List.take, List.drop]
  repeat (first
    | (apply StepsD.run
       · go_simp
         done
       · intro w' hS K hK
         have hc := (bcell hS).1
         have hf := (bcell hS).2
         have hz := hS.size
         try simp at hz
         go_simp
         try go_bits
         first
           | exact hK _ hS
           | (go_at_call 62; refine (floor_any _ _ ⟨by omega, by omega⟩ ⟨by omega, by omega⟩ _).mono ?_; rintro e w1 ⟨rfl, rfl⟩; exact hK _ hS)
           | exact hK _ (by repeat (first | (with_reducible exact Below.refl _ _) | (with_reducible assumption) | ((with_reducible refine Below.setCell ?_ ?_ _); rotate_left; · (first | exact Nat.le_refl _ | (simp; done) | (simp; omega) | omega)) | ((with_reducible refine Below.alloc ?_ ?_ _); rotate_left; · (first | exact Nat.le_refl _ | (simp; done) | (simp; omega) | omega)) | (with_reducible apply Below.drew) | (with_reducible apply below_drewN') | (refine Below.trans ?_ (Below.mono (by assumption) (by first | exact Nat.le_refl _ | (simp; done) | (simp; omega) | omega))) | exact Below.refl _ _ | assumption))
       · simp [Act.put]
         done)
    | (apply StepsD.pass
       · go_simp
         done
       · simp only [Act.put, List.setIfInBounds_toArray, List.set_cons_succ, List.set_cons_zero]
         rfl))
  refine StepsD.done ?_
  intro w3 hS
  have bb3 := bb2.below hS lb2
  have br3 := br2.below hS lr2
  have lb3 := bb3.lt
  have lr3 := br3.lt
  have hBD := hBC.trans (hS.mono hBC.size)
  have hsD := Below.size hBD
  clear hS hBC bb2 br2 lb2 lr2 c0 c1 c2 c3 c4 c5 c6
  have hwr : b.gap + (b.thick - b.land) * b.tn / b.td = b.wide := rfl
  rw [hwr]
  have hwd0 : 0 ≤ b.wide ∧ b.wide ≤ 2020000 := by unfold Bv.wide Bv.depth; omega
  have hwd : 0 ≤ b.wide ∧ b.wide ≤ 2020000 := by unfold Bv.wide Bv.depth; omega
  by_cases hq : 20000 < b.wide
  · have HE2 : Hid (bvE nm b = 8) := Lib.hid (by rw [HE.out, if_pos hq])
    have e6 := Blk.set4 br3 (.string ⟨#[]⟩) (.int .i64 0) (.int .i64 0) (.slice none 0 0)
    obtain ⟨d0, d1, d2, d3, df⟩ := blk4 br3
    obtain ⟨z0, z1, z2, z3, _⟩ := blk4 e6
    go_wp2
    refine bodyPost_ret (v := .tuple #[noJo, .int .i64 8]) ?_ rfl ⟨⟨fun _ => by rw [HE2.out], fun h => absurd (HE2.out.symm.trans h) (by omega)⟩, Below.set4 hBD (by omega)⟩
    simp [results, Tryz.results17, go_sem, z0, z1, z2, z3, noJo]
  · have HE0 : Hid (bvE nm b = 0) := Lib.hid (by rw [HE.out, if_neg hq])
    have hwd2 : 0 ≤ b.wide ∧ b.wide ≤ 20000 := by omega
    obtain ⟨c0, c1, c2, c3, c4, c5, c6⟩ := bv_cells bb3
    clear m1 m2 m3 m4 m5 m9 HE hwr
    go_wp2_with fail
    generalize hg7 : w3.heap.size = g7 at *
    have b7 : Blk (w3.alloc (.cells #[.string nm, .int .i64 b.thick, .int .i64 b.zone, .slice none 0 0] 24)) g7 24 #[.string nm, .int .i64 b.thick, .int .i64 b.zone, .slice none 0 0] := Blk.new' _ _ _ hg7.symm
    go_loopw [7] (fun i wr => ∃ (m : Nat) (v : Value), m ≤ 2 ∧ i = .int .i64 m ∧ Blk wr g7 24 #[.string nm, .int .i64 b.thick, .int .i64 b.zone, v] ∧ wr.ownsRow (g7 + 1) 57 5 v (bvH b m).length (fcsC (bvH b m)) ∧ Blk wr w.heap.size 28 (bvC nm b) ∧ Blk wr (w.heap.size + 1) 24 #[.string ⟨#[]⟩, .int .i64 0, .int .i64 0, .slice none 0 0] ∧ Below w.heap.size w wr) (fun i _ => 2 - (intOf i).toNat)
    case atStart => exact ⟨0, .slice none 0 0, by omega, rfl, b7, ⟨rfl, .inl ⟨rfl, rfl⟩⟩, bb3.alloc _, br3.alloc _, hBD.alloc (by rw [hg7]; exact hsD) _⟩
    case round =>
      obtain ⟨m, v, hm, rfl, b7, own, bb, br, hBB⟩ := hrel
      have hsB := Below.size hBB
      have lb7 := b7.lt
      have lbb := bb.lt
      have lbr := br.lt
      obtain ⟨e0, e1, e2, e3, ef⟩ := blk4 b7
      obtain ⟨c0, c1, c2, c3, c4, c5, c6⟩ := bv_cells bb
      by_cases hlt : m < 2
      · go_upto_if 81 with fail
        go_cut [8, 9] (fun s8 s9 wx => ∃ (sd : ByteArray) (sg : Int), s8 = .string sd ∧ s9 = .int .i64 sg ∧ sd.size = 1 ∧ (sg = 1 ∨ sg = -1) ∧ Hid (bvH b (m + 1) = bvH b m ++ bvF b sd sg) ∧ wx = wr)
        case first =>
          rcases (by omega : m = 0 ∨ m = 1) with rfl | rfl
          · go_wp2
            go_meet
            exact ⟨⟨#[108]⟩, -1, rfl, rfl, rfl, .inr rfl, Lib.hid (by simp [bvH]), rfl⟩
          · go_wp2
            go_meet
            exact ⟨⟨#[114]⟩, 1, rfl, rfl, rfl, .inl rfl, Lib.hid (by simp [bvH]), rfl⟩
        case rest =>
        obtain ⟨sd, sg, rfl, rfl, hsd, hsg, HF, rfl⟩ := hcut
        have a1 : ∀ W, (Op.stringOp .add sd ⟨#[45, 108, 97, 110, 100]⟩).run Tryz.prog W = .ok (.string (sd ++ (⟨#[45, 108, 97, 110, 100]⟩ : ByteArray))) W := fun W => run_string_add_sum W _ _ (by rw [hsd]; decide)
        have a2 : ∀ W, (Op.stringOp .add sd ⟨#[45, 98, 101, 118, 101, 108]⟩).run Tryz.prog W = .ok (.string (sd ++ (⟨#[45, 98, 101, 118, 101, 108]⟩ : ByteArray))) W := fun W => run_string_add_sum W _ _ (by rw [hsd]; decide)
        have p1 : -20000 ≤ sg * b.gap ∧ sg * b.gap ≤ 20000 := by rcases hsg with rfl | rfl <;> omega
        have p2 : -20000 ≤ sg * b.wide ∧ sg * b.wide ≤ 20000 := by rcases hsg with rfl | rfl <;> omega
        have hln := bvH_length b m
        have HFS := Lib.hid (show bvF b sd sg = (if 0 < b.land then [(sd ++ (⟨#[45, 108, 97, 110, 100]⟩ : ByteArray), (⟨sg * b.gap, b.thick, sg * b.gap, b.thick - b.land⟩ : Fc))] else []) ++ (if 0 < b.thick - b.land then [(sd ++ (⟨#[45, 98, 101, 118, 101, 108]⟩ : ByteArray), (⟨sg * b.gap, b.thick - b.land, sg * b.wide, 0⟩ : Fc))] else []) from rfl)
        generalize sd ++ (⟨#[45, 108, 97, 110, 100]⟩ : ByteArray) = n1 at *
        generalize sd ++ (⟨#[45, 98, 101, 118, 101, 108]⟩ : ByteArray) = n2 at *
        generalize bvH b m = fs at *
        generalize bvF b sd sg = fn at *
        clear hsg HE0 hwd hwd2 hq
        go_upto_region 18 with fail
        go_cut [10, 11, 12] (fun s10 s11 s12 wx => ∃ r d k : Nat, s10 = .pointer (some ⟨r, 0, none⟩) ∧ s11 = .pointer (some ⟨d, 0, none⟩) ∧ s12 = .pointer (some ⟨k, 0, none⟩) ∧ (Blk wx r 55 #[.int .i64 (sg * b.gap), .int .i64 b.thick] ∧ Blk wx d 55 #[.int .i64 (sg * b.gap), .int .i64 (b.thick - b.land)] ∧ Blk wx k 55 #[.int .i64 (sg * b.wide), .int .i64 0]) ∧ (wc.heap.size ≤ r ∧ wc.heap.size ≤ d ∧ wc.heap.size ≤ k) ∧ Below wc.heap.size wc wx)
        case first =>
          go_wp2_with fail
          refine wp_region_w (Gr _) (by kernel_rfl) (Below.refl _ _).drew ?_
          refine wpW_det (t' := ?ct0R19) 0 (by rfl) (by kernel_rfl) (NQ_free _) (by kernel_rfl) ?cw0R19 ?ch0R19 ?ca0R19 (Eq.refl _) ?cH0R19
          case cw0R19 => (go_simp; done)
          case ch0R19 =>
            intro ds w' hS K hK
            have hc := (bcell hS).1
            have hf := (bcell hS).2
            have hz := hS.size
            try simp at hz
            go_simp
            try go_bits
            first
              | exact hK _ hS (Gr.refl _)
              | exact hK _ (by repeat (first | (with_reducible exact Below.refl _ _) | (with_reducible assumption) | ((with_reducible refine Below.setCell ?_ ?_ _); rotate_left; · (first | exact Nat.le_refl _ | (simp; done) | (simp; omega) | omega)) | ((with_reducible refine Below.alloc ?_ ?_ _); rotate_left; · (first | exact Nat.le_refl _ | (simp; done) | (simp; omega) | omega)) | (with_reducible apply Below.drew) | (with_reducible apply below_drewN') | (refine Below.trans ?_ (Below.mono (by assumption) (by first | exact Nat.le_refl _ | (simp; done) | (simp; omega) | omega))) | exact Below.refl _ _ | assumption)) (by repeat (first | (with_reducible exact Below.refl _ _) | (with_reducible assumption) | ((with_reducible refine Below.setCell ?_ ?_ _); rotate_left; · (first | exact Nat.le_refl _ | (simp; done) | (simp; omega) | omega)) | ((with_reducible refine Below.alloc ?_ ?_ _); rotate_left; · (first | exact Nat.le_refl _ | (simp; done) | (simp; omega) | omega)) | (with_reducible apply Below.drew) | (with_reducible apply below_drewN') | (refine Below.trans ?_ (Below.mono (by assumption) (by first | exact Nat.le_refl _ | (simp; done) | (simp; omega) | omega))) | exact Below.refl _ _ | assumption))
          case ca0R19 => (first | (simp [Act.put]; done) | (simp [Act.put, *]; done))
          try dsimp only
          refine wpW_det (t' := ?ct1R19) 1 (by rfl) (by kernel_rfl) (NQ_free _) (by kernel_rfl) ?cw1R19 ?ch1R19 ?ca1R19 (Eq.refl _) ?cH1R19
          case cw1R19 => (go_simp; done)
          case ch1R19 =>
            intro ds w' hS K hK
            have hc := (bcell hS).1
            have hf := (bcell hS).2
            have hz := hS.size
            try simp at hz
            go_simp
            try go_bits
            first
              | exact hK _ hS (Gr.refl _)
              | exact hK _ (by repeat (first | (with_reducible exact Below.refl _ _) | (with_reducible assumption) | ((with_reducible refine Below.setCell ?_ ?_ _); rotate_left; · (first | exact Nat.le_refl _ | (simp; done) | (simp; omega) | omega)) | ((with_reducible refine Below.alloc ?_ ?_ _); rotate_left; · (first | exact Nat.le_refl _ | (simp; done) | (simp; omega) | omega)) | (with_reducible apply Below.drew) | (with_reducible apply below_drewN') | (refine Below.trans ?_ (Below.mono (by assumption) (by first | exact Nat.le_refl _ | (simp; done) | (simp; omega) | omega))) | exact Below.refl _ _ | assumption)) (by repeat (first | (with_reducible exact Below.refl _ _) | (with_reducible assumption) | ((with_reducible refine Below.setCell ?_ ?_ _); rotate_left; · (first | exact Nat.le_refl _ | (simp; done) | (simp; omega) | omega)) | ((with_reducible refine Below.alloc ?_ ?_ _); rotate_left; · (first | exact Nat.le_refl _ | (simp; done) | (simp; omega) | omega)) | (with_reducible apply Below.drew) | (with_reducible apply below_drewN') | (refine Below.trans ?_ (Below.mono (by assumption) (by first | exact Nat.le_refl _ | (simp; done) | (simp; omega) | omega))) | exact Below.refl _ _ | assumption))
          case ca1R19 => (first | (simp [Act.put]; done) | (simp [Act.put, *]; done))
          try dsimp only
          refine wpW_det (t' := ?ct2R19) 2 (by rfl) (by kernel_rfl) (NQ_free _) (by kernel_rfl) ?cw2R19 ?ch2R19 ?ca2R19 (Eq.refl _) ?cH2R19
          case cw2R19 => (go_simp; done)
          case ch2R19 =>
            intro ds w' hS K hK
            have hc := (bcell hS).1
            have hf := (bcell hS).2
            have hz := hS.size
            try simp at hz
            go_simp
            try go_bits
            first
              | exact hK _ hS (Gr.refl _)
              | exact hK _ (by repeat (first | (with_reducible exact Below.refl _ _) | (with_reducible assumption) | ((with_reducible refine Below.setCell ?_ ?_ _); rotate_left; · (first | exact Nat.le_refl _ | (simp; done) | (simp; omega) | omega)) | ((with_reducible refine Below.alloc ?_ ?_ _); rotate_left; · (first | exact Nat.le_refl _ | (simp; done) | (simp; omega) | omega)) | (with_reducible apply Below.drew) | (with_reducible apply below_drewN') | (refine Below.trans ?_ (Below.mono (by assumption) (by first | exact Nat.le_refl _ | (simp; done) | (simp; omega) | omega))) | exact Below.refl _ _ | assumption)) (by repeat (first | (with_reducible exact Below.refl _ _) | (with_reducible assumption) | ((with_reducible refine Below.setCell ?_ ?_ _); rotate_left; · (first | exact Nat.le_refl _ | (simp; done) | (simp; omega) | omega)) | ((with_reducible refine Below.alloc ?_ ?_ _); rotate_left; · (first | exact Nat.le_refl _ | (simp; done) | (simp; omega) | omega)) | (with_reducible apply Below.drew) | (with_reducible apply below_drewN') | (refine Below.trans ?_ (Below.mono (by assumption) (by first | exact Nat.le_refl _ | (simp; done) | (simp; omega) | omega))) | exact Below.refl _ _ | assumption))
          case ca2R19 => (first | (simp [Act.put]; done) | (simp [Act.put, *]; done))
          try dsimp only
          refine wpW_det (t' := ?ct3R19) 3 (by rfl) (by kernel_rfl) (NQ_free _) (by kernel_rfl) ?cw3R19 ?ch3R19 ?ca3R19 (Eq.refl _) ?cH3R19
          case cw3R19 => (go_simp; done)
          case ch3R19 =>
            intro ds w' hS K hK
            have hc := (bcell hS).1
            have hf := (bcell hS).2
            have hz := hS.size
            try simp at hz
            go_simp
            try go_bits
            first
              | exact hK _ hS (Gr.refl _)
              | exact hK _ (by repeat (first | (with_reducible exact Below.refl _ _) | (with_reducible assumption) | ((with_reducible refine Below.setCell ?_ ?_ _); rotate_left; · (first | exact Nat.le_refl _ | (simp; done) | (simp; omega) | omega)) | ((with_reducible refine Below.alloc ?_ ?_ _); rotate_left; · (first | exact Nat.le_refl _ | (simp; done) | (simp; omega) | omega)) | (with_reducible apply Below.drew) | (with_reducible apply below_drewN') | (refine Below.trans ?_ (Below.mono (by assumption) (by first | exact Nat.le_refl _ | (simp; done) | (simp; omega) | omega))) | exact Below.refl _ _ | assumption)) (by repeat (first | (with_reducible exact Below.refl _ _) | (with_reducible assumption) | ((with_reducible refine Below.setCell ?_ ?_ _); rotate_left; · (first | exact Nat.le_refl _ | (simp; done) | (simp; omega) | omega)) | ((with_reducible refine Below.alloc ?_ ?_ _); rotate_left; · (first | exact Nat.le_refl _ | (simp; done) | (simp; omega) | omega)) | (with_reducible apply Below.drew) | (with_reducible apply below_drewN') | (refine Below.trans ?_ (Below.mono (by assumption) (by first | exact Nat.le_refl _ | (simp; done) | (simp; omega) | omega))) | exact Below.refl _ _ | assumption))
          case ca3R19 => (first | (simp [Act.put]; done) | (simp [Act.put, *]; done))
          try dsimp only
          refine wpW_det (t' := ?ct4R19) 4 (by rfl) (by kernel_rfl) (NQ_free _) (by kernel_rfl) ?cw4R19 ?ch4R19 ?ca4R19 (Eq.refl _) ?cH4R19
          case cw4R19 => (go_simp; done)
          case ch4R19 =>
            intro ds w' hS K hK
            have hc := (bcell hS).1
            have hf := (bcell hS).2
            have hz := hS.size
            try simp at hz
            go_simp
            try go_bits
            first
              | exact hK _ hS (Gr.refl _)
              | exact hK _ (by repeat (first | (with_reducible exact Below.refl _ _) | (with_reducible assumption) | ((with_reducible refine Below.setCell ?_ ?_ _); rotate_left; · (first | exact Nat.le_refl _ | (simp; done) | (simp; omega) | omega)) | ((with_reducible refine Below.alloc ?_ ?_ _); rotate_left; · (first | exact Nat.le_refl _ | (simp; done) | (simp; omega) | omega)) | (with_reducible apply Below.drew) | (with_reducible apply below_drewN') | (refine Below.trans ?_ (Below.mono (by assumption) (by first | exact Nat.le_refl _ | (simp; done) | (simp; omega) | omega))) | exact Below.refl _ _ | assumption)) (by repeat (first | (with_reducible exact Below.refl _ _) | (with_reducible assumption) | ((with_reducible refine Below.setCell ?_ ?_ _); rotate_left; · (first | exact Nat.le_refl _ | (simp; done) | (simp; omega) | omega)) | ((with_reducible refine Below.alloc ?_ ?_ _); rotate_left; · (first | exact Nat.le_refl _ | (simp; done) | (simp; omega) | omega)) | (with_reducible apply Below.drew) | (with_reducible apply below_drewN') | (refine Below.trans ?_ (Below.mono (by assumption) (by first | exact Nat.le_refl _ | (simp; done) | (simp; omega) | omega))) | exact Below.refl _ _ | assumption))
          case ca4R19 => (first | (simp [Act.put]; done) | (simp [Act.put, *]; done))
          try dsimp only
          refine wpW_det (t' := ?ct5R19) 5 (by rfl) (by kernel_rfl) (NQ_free _) (by kernel_rfl) ?cw5R19 ?ch5R19 ?ca5R19 (Eq.refl _) ?cH5R19
          case cw5R19 => (go_simp; done)
          case ch5R19 =>
            intro ds w' hS K hK
            have hc := (bcell hS).1
            have hf := (bcell hS).2
            have hz := hS.size
            try simp at hz
            go_simp
            try go_bits
            first
              | exact hK _ hS (Gr.refl _)
              | exact hK _ (by repeat (first | (with_reducible exact Below.refl _ _) | (with_reducible assumption) | ((with_reducible refine Below.setCell ?_ ?_ _); rotate_left; · (first | exact Nat.le_refl _ | (simp; done) | (simp; omega) | omega)) | ((with_reducible refine Below.alloc ?_ ?_ _); rotate_left; · (first | exact Nat.le_refl _ | (simp; done) | (simp; omega) | omega)) | (with_reducible apply Below.drew) | (with_reducible apply below_drewN') | (refine Below.trans ?_ (Below.mono (by assumption) (by first | exact Nat.le_refl _ | (simp; done) | (simp; omega) | omega))) | exact Below.refl _ _ | assumption)) (by repeat (first | (with_reducible exact Below.refl _ _) | (with_reducible assumption) | ((with_reducible refine Below.setCell ?_ ?_ _); rotate_left; · (first | exact Nat.le_refl _ | (simp; done) | (simp; omega) | omega)) | ((with_reducible refine Below.alloc ?_ ?_ _); rotate_left; · (first | exact Nat.le_refl _ | (simp; done) | (simp; omega) | omega)) | (with_reducible apply Below.drew) | (with_reducible apply below_drewN') | (refine Below.trans ?_ (Below.mono (by assumption) (by first | exact Nat.le_refl _ | (simp; done) | (simp; omega) | omega))) | exact Below.refl _ _ | assumption))
          case ca5R19 => (first | (simp [Act.put]; done) | (simp [Act.put, *]; done))
          try dsimp only
          refine wpW_det (t' := ?ct6R19) 6 (by rfl) (by kernel_rfl) (NQ_free _) (by kernel_rfl) ?cw6R19 ?ch6R19 ?ca6R19 (Eq.refl _) ?cH6R19
          case cw6R19 => (go_simp; done)
          case ch6R19 =>
            intro ds w' hS K hK
            have hc := (bcell hS).1
            have hf := (bcell hS).2
            have hz := hS.size
            try simp at hz
            go_simp
            try go_bits
            first
              | exact hK _ hS (Gr.refl _)
              | exact hK _ (by repeat (first | (with_reducible exact Below.refl _ _) | (with_reducible assumption) | ((with_reducible refine Below.setCell ?_ ?_ _); rotate_left; · (first | exact Nat.le_refl _ | (simp; done) | (simp; omega) | omega)) | ((with_reducible refine Below.alloc ?_ ?_ _); rotate_left; · (first | exact Nat.le_refl _ | (simp; done) | (simp; omega) | omega)) | (with_reducible apply Below.drew) | (with_reducible apply below_drewN') | (refine Below.trans ?_ (Below.mono (by assumption) (by first | exact Nat.le_refl _ | (simp; done) | (simp; omega) | omega))) | exact Below.refl _ _ | assumption)) (by repeat (first | (with_reducible exact Below.refl _ _) | (with_reducible assumption) | ((with_reducible refine Below.setCell ?_ ?_ _); rotate_left; · (first | exact Nat.le_refl _ | (simp; done) | (simp; omega) | omega)) | ((with_reducible refine Below.alloc ?_ ?_ _); rotate_left; · (first | exact Nat.le_refl _ | (simp; done) | (simp; omega) | omega)) | (with_reducible apply Below.drew) | (with_reducible apply below_drewN') | (refine Below.trans ?_ (Below.mono (by assumption) (by first | exact Nat.le_refl _ | (simp; done) | (simp; omega) | omega))) | exact Below.refl _ _ | assumption))
          case ca6R19 => (first | (simp [Act.put]; done) | (simp [Act.put, *]; done))
          try dsimp only
          refine wpW_det (t' := ?ct7R19) 7 (by rfl) (by kernel_rfl) (NQ_free _) (by kernel_rfl) ?cw7R19 ?ch7R19 ?ca7R19 (Eq.refl _) ?cH7R19
          case cw7R19 => (go_simp; done)
          case ch7R19 =>
            intro ds w' hS K hK
            have hc := (bcell hS).1
            have hf := (bcell hS).2
            have hz := hS.size
            try simp at hz
            go_simp
            try go_bits
            first
              | exact hK _ hS (Gr.refl _)
              | exact hK _ (by repeat (first | (with_reducible exact Below.refl _ _) | (with_reducible assumption) | ((with_reducible refine Below.setCell ?_ ?_ _); rotate_left; · (first | exact Nat.le_refl _ | (simp; done) | (simp; omega) | omega)) | ((with_reducible refine Below.alloc ?_ ?_ _); rotate_left; · (first | exact Nat.le_refl _ | (simp; done) | (simp; omega) | omega)) | (with_reducible apply Below.drew) | (with_reducible apply below_drewN') | (refine Below.trans ?_ (Below.mono (by assumption) (by first | exact Nat.le_refl _ | (simp; done) | (simp; omega) | omega))) | exact Below.refl _ _ | assumption)) (by repeat (first | (with_reducible exact Below.refl _ _) | (with_reducible assumption) | ((with_reducible refine Below.setCell ?_ ?_ _); rotate_left; · (first | exact Nat.le_refl _ | (simp; done) | (simp; omega) | omega)) | ((with_reducible refine Below.alloc ?_ ?_ _); rotate_left; · (first | exact Nat.le_refl _ | (simp; done) | (simp; omega) | omega)) | (with_reducible apply Below.drew) | (with_reducible apply below_drewN') | (refine Below.trans ?_ (Below.mono (by assumption) (by first | exact Nat.le_refl _ | (simp; done) | (simp; omega) | omega))) | exact Below.refl _ _ | assumption))
          case ca7R19 => (first | (simp [Act.put]; done) | (simp [Act.put, *]; done))
          try dsimp only
          refine wpW_det (t' := ?ct8R19) 8 (by rfl) (by kernel_rfl) (NQ_free _) (by kernel_rfl) ?cw8R19 ?ch8R19 ?ca8R19 (Eq.refl _) ?cH8R19
          case cw8R19 => (go_simp; done)
          case ch8R19 =>
            intro ds w' hS K hK
            have hc := (bcell hS).1
            have hf := (bcell hS).2
            have hz := hS.size
            try simp at hz
            go_simp
            try go_bits
            first
              | exact hK _ hS (Gr.refl _)
              | exact hK _ (by repeat (first | (with_reducible exact Below.refl _ _) | (with_reducible assumption) | ((with_reducible refine Below.setCell ?_ ?_ _); rotate_left; · (first | exact Nat.le_refl _ | (simp; done) | (simp; omega) | omega)) | ((with_reducible refine Below.alloc ?_ ?_ _); rotate_left; · (first | exact Nat.le_refl _ | (simp; done) | (simp; omega) | omega)) | (with_reducible apply Below.drew) | (with_reducible apply below_drewN') | (refine Below.trans ?_ (Below.mono (by assumption) (by first | exact Nat.le_refl _ | (simp; done) | (simp; omega) | omega))) | exact Below.refl _ _ | assumption)) (by repeat (first | (with_reducible exact Below.refl _ _) | (with_reducible assumption) | ((with_reducible refine Below.setCell ?_ ?_ _); rotate_left; · (first | exact Nat.le_refl _ | (simp; done) | (simp; omega) | omega)) | ((with_reducible refine Below.alloc ?_ ?_ _); rotate_left; · (first | exact Nat.le_refl _ | (simp; done) | (simp; omega) | omega)) | (with_reducible apply Below.drew) | (with_reducible apply below_drewN') | (refine Below.trans ?_ (Below.mono (by assumption) (by first | exact Nat.le_refl _ | (simp; done) | (simp; omega) | omega))) | exact Below.refl _ _ | assumption))
          case ca8R19 => (first | (simp [Act.put]; done) | (simp [Act.put, *]; done))
          try dsimp only
          refine wpW_det (t' := ?ct9R19) 9 (by rfl) (by kernel_rfl) (NQ_free _) (by kernel_rfl) ?cw9R19 ?ch9R19 ?ca9R19 (Eq.refl _) ?cH9R19
          case cw9R19 => (go_simp; done)
          case ch9R19 =>
            intro ds w' hS K hK
            have hc := (bcell hS).1
            have hf := (bcell hS).2
            have hz := hS.size
            try simp at hz
            go_simp
            try go_bits
            first
              | exact hK _ hS (Gr.refl _)
              | exact hK _ (by repeat (first | (with_reducible exact Below.refl _ _) | (with_reducible assumption) | ((with_reducible refine Below.setCell ?_ ?_ _); rotate_left; · (first | exact Nat.le_refl _ | (simp; done) | (simp; omega) | omega)) | ((with_reducible refine Below.alloc ?_ ?_ _); rotate_left; · (first | exact Nat.le_refl _ | (simp; done) | (simp; omega) | omega)) | (with_reducible apply Below.drew) | (with_reducible apply below_drewN') | (refine Below.trans ?_ (Below.mono (by assumption) (by first | exact Nat.le_refl _ | (simp; done) | (simp; omega) | omega))) | exact Below.refl _ _ | assumption)) (by repeat (first | (with_reducible exact Below.refl _ _) | (with_reducible assumption) | ((with_reducible refine Below.setCell ?_ ?_ _); rotate_left; · (first | exact Nat.le_refl _ | (simp; done) | (simp; omega) | omega)) | ((with_reducible refine Below.alloc ?_ ?_ _); rotate_left; · (first | exact Nat.le_refl _ | (simp; done) | (simp; omega) | omega)) | (with_reducible apply Below.drew) | (with_reducible apply below_drewN') | (refine Below.trans ?_ (Below.mono (by assumption) (by first | exact Nat.le_refl _ | (simp; done) | (simp; omega) | omega))) | exact Below.refl _ _ | assumption))
          case ca9R19 => (first | (simp [Act.put]; done) | (simp [Act.put, *]; done))
          try dsimp only
          refine wpW_det (t' := ?ct10R19) 10 (by rfl) (by kernel_rfl) (NQ_free _) (by kernel_rfl) ?cw10R19 ?ch10R19 ?ca10R19 (Eq.refl _) ?cH10R19
          case cw10R19 => (go_simp; done)
          case ch10R19 =>
            intro ds w' hS K hK
            have hc := (bcell hS).1
            have hf := (bcell hS).2
            have hz := hS.size
            try simp at hz
            go_simp
            try go_bits
            first
              | exact hK _ hS (Gr.refl _)
              | exact hK _ (by repeat (first | (with_reducible exact Below.refl _ _) | (with_reducible assumption) | ((with_reducible refine Below.setCell ?_ ?_ _); rotate_left; · (first | exact Nat.le_refl _ | (simp; done) | (simp; omega) | omega)) | ((with_reducible refine Below.alloc ?_ ?_ _); rotate_left; · (first | exact Nat.le_refl _ | (simp; done) | (simp; omega) | omega)) | (with_reducible apply Below.drew) | (with_reducible apply below_drewN') | (refine Below.trans ?_ (Below.mono (by assumption) (by first | exact Nat.le_refl _ | (simp; done) | (simp; omega) | omega))) | exact Below.refl _ _ | assumption)) (by repeat (first | (with_reducible exact Below.refl _ _) | (with_reducible assumption) | ((with_reducible refine Below.setCell ?_ ?_ _); rotate_left; · (first | exact Nat.le_refl _ | (simp; done) | (simp; omega) | omega)) | ((with_reducible refine Below.alloc ?_ ?_ _); rotate_left; · (first | exact Nat.le_refl _ | (simp; done) | (simp; omega) | omega)) | (with_reducible apply Below.drew) | (with_reducible apply below_drewN') | (refine Below.trans ?_ (Below.mono (by assumption) (by first | exact Nat.le_refl _ | (simp; done) | (simp; omega) | omega))) | exact Below.refl _ _ | assumption))
          case ca10R19 => (first | (simp [Act.put]; done) | (simp [Act.put, *]; done))
          try dsimp only
          refine wpW_det (t' := ?ct11R19) 11 (by rfl) (by kernel_rfl) (NQ_free _) (by kernel_rfl) ?cw11R19 ?ch11R19 ?ca11R19 (Eq.refl _) ?cH11R19
          case cw11R19 => (go_simp; done)
          case ch11R19 =>
            intro ds w' hS K hK
            have hc := (bcell hS).1
            have hf := (bcell hS).2
            have hz := hS.size
            try simp at hz
            go_simp
            try go_bits
            first
              | exact hK _ hS (Gr.refl _)
              | exact hK _ (by repeat (first | (with_reducible exact Below.refl _ _) | (with_reducible assumption) | ((with_reducible refine Below.setCell ?_ ?_ _); rotate_left; · (first | exact Nat.le_refl _ | (simp; done) | (simp; omega) | omega)) | ((with_reducible refine Below.alloc ?_ ?_ _); rotate_left; · (first | exact Nat.le_refl _ | (simp; done) | (simp; omega) | omega)) | (with_reducible apply Below.drew) | (with_reducible apply below_drewN') | (refine Below.trans ?_ (Below.mono (by assumption) (by first | exact Nat.le_refl _ | (simp; done) | (simp; omega) | omega))) | exact Below.refl _ _ | assumption)) (by repeat (first | (with_reducible exact Below.refl _ _) | (with_reducible assumption) | ((with_reducible refine Below.setCell ?_ ?_ _); rotate_left; · (first | exact Nat.le_refl _ | (simp; done) | (simp; omega) | omega)) | ((with_reducible refine Below.alloc ?_ ?_ _); rotate_left; · (first | exact Nat.le_refl _ | (simp; done) | (simp; omega) | omega)) | (with_reducible apply Below.drew) | (with_reducible apply below_drewN') | (refine Below.trans ?_ (Below.mono (by assumption) (by first | exact Nat.le_refl _ | (simp; done) | (simp; omega) | omega))) | exact Below.refl _ _ | assumption))
          case ca11R19 => (first | (simp [Act.put]; done) | (simp [Act.put, *]; done))
          try dsimp only
          refine wpW_det (t' := ?ct12R19) 12 (by rfl) (by kernel_rfl) (NQ_free _) (by kernel_rfl) ?cw12R19 ?ch12R19 ?ca12R19 (Eq.refl _) ?cH12R19
          case cw12R19 => (go_simp; done)
          case ch12R19 =>
            intro ds w' hS K hK
            have hc := (bcell hS).1
            have hf := (bcell hS).2
            have hz := hS.size
            try simp at hz
            go_simp
            try go_bits
            first
              | exact hK _ hS (Gr.refl _)
              | exact hK _ (by repeat (first | (with_reducible exact Below.refl _ _) | (with_reducible assumption) | ((with_reducible refine Below.setCell ?_ ?_ _); rotate_left; · (first | exact Nat.le_refl _ | (simp; done) | (simp; omega) | omega)) | ((with_reducible refine Below.alloc ?_ ?_ _); rotate_left; · (first | exact Nat.le_refl _ | (simp; done) | (simp; omega) | omega)) | (with_reducible apply Below.drew) | (with_reducible apply below_drewN') | (refine Below.trans ?_ (Below.mono (by assumption) (by first | exact Nat.le_refl _ | (simp; done) | (simp; omega) | omega))) | exact Below.refl _ _ | assumption)) (by repeat (first | (with_reducible exact Below.refl _ _) | (with_reducible assumption) | ((with_reducible refine Below.setCell ?_ ?_ _); rotate_left; · (first | exact Nat.le_refl _ | (simp; done) | (simp; omega) | omega)) | ((with_reducible refine Below.alloc ?_ ?_ _); rotate_left; · (first | exact Nat.le_refl _ | (simp; done) | (simp; omega) | omega)) | (with_reducible apply Below.drew) | (with_reducible apply below_drewN') | (refine Below.trans ?_ (Below.mono (by assumption) (by first | exact Nat.le_refl _ | (simp; done) | (simp; omega) | omega))) | exact Below.refl _ _ | assumption))
          case ca12R19 => (first | (simp [Act.put]; done) | (simp [Act.put, *]; done))
          try dsimp only
          refine wpW_det (t' := ?ct13R19) 13 (by rfl) (by kernel_rfl) (NQ_free _) (by kernel_rfl) ?cw13R19 ?ch13R19 ?ca13R19 (Eq.refl _) ?cH13R19
          case cw13R19 => (go_simp; done)
          case ch13R19 =>
            intro ds w' hS K hK
            have hc := (bcell hS).1
            have hf := (bcell hS).2
            have hz := hS.size
            try simp at hz
            go_simp
            try go_bits
            first
              | exact hK _ hS (Gr.refl _)
              | exact hK _ (by repeat (first | (with_reducible exact Below.refl _ _) | (with_reducible assumption) | ((with_reducible refine Below.setCell ?_ ?_ _); rotate_left; · (first | exact Nat.le_refl _ | (simp; done) | (simp; omega) | omega)) | ((with_reducible refine Below.alloc ?_ ?_ _); rotate_left; · (first | exact Nat.le_refl _ | (simp; done) | (simp; omega) | omega)) | (with_reducible apply Below.drew) | (with_reducible apply below_drewN') | (refine Below.trans ?_ (Below.mono (by assumption) (by first | exact Nat.le_refl _ | (simp; done) | (simp; omega) | omega))) | exact Below.refl _ _ | assumption)) (by repeat (first | (with_reducible exact Below.refl _ _) | (with_reducible assumption) | ((with_reducible refine Below.setCell ?_ ?_ _); rotate_left; · (first | exact Nat.le_refl _ | (simp; done) | (simp; omega) | omega)) | ((with_reducible refine Below.alloc ?_ ?_ _); rotate_left; · (first | exact Nat.le_refl _ | (simp; done) | (simp; omega) | omega)) | (with_reducible apply Below.drew) | (with_reducible apply below_drewN') | (refine Below.trans ?_ (Below.mono (by assumption) (by first | exact Nat.le_refl _ | (simp; done) | (simp; omega) | omega))) | exact Below.refl _ _ | assumption))
          case ca13R19 => (first | (simp [Act.put]; done) | (simp [Act.put, *]; done))
          try dsimp only
          refine wpW_det (t' := ?ct14R19) 14 (by rfl) (by kernel_rfl) (NQ_free _) (by kernel_rfl) ?cw14R19 ?ch14R19 ?ca14R19 (Eq.refl _) ?cH14R19
          case cw14R19 => (go_simp; done)
          case ch14R19 =>
            intro ds w' hS K hK
            have hc := (bcell hS).1
            have hf := (bcell hS).2
            have hz := hS.size
            try simp at hz
            go_simp
            try go_bits
            first
              | exact hK _ hS (Gr.refl _)
              | exact hK _ (by repeat (first | (with_reducible exact Below.refl _ _) | (with_reducible assumption) | ((with_reducible refine Below.setCell ?_ ?_ _); rotate_left; · (first | exact Nat.le_refl _ | (simp; done) | (simp; omega) | omega)) | ((with_reducible refine Below.alloc ?_ ?_ _); rotate_left; · (first | exact Nat.le_refl _ | (simp; done) | (simp; omega) | omega)) | (with_reducible apply Below.drew) | (with_reducible apply below_drewN') | (refine Below.trans ?_ (Below.mono (by assumption) (by first | exact Nat.le_refl _ | (simp; done) | (simp; omega) | omega))) | exact Below.refl _ _ | assumption)) (by repeat (first | (with_reducible exact Below.refl _ _) | (with_reducible assumption) | ((with_reducible refine Below.setCell ?_ ?_ _); rotate_left; · (first | exact Nat.le_refl _ | (simp; done) | (simp; omega) | omega)) | ((with_reducible refine Below.alloc ?_ ?_ _); rotate_left; · (first | exact Nat.le_refl _ | (simp; done) | (simp; omega) | omega)) | (with_reducible apply Below.drew) | (with_reducible apply below_drewN') | (refine Below.trans ?_ (Below.mono (by assumption) (by first | exact Nat.le_refl _ | (simp; done) | (simp; omega) | omega))) | exact Below.refl _ _ | assumption))
          case ca14R19 => (first | (simp [Act.put]; done) | (simp [Act.put, *]; done))
          try dsimp only
          refine wpW_det (t' := ?ct15R19) 15 (by rfl) (by kernel_rfl) (NQ_free _) (by kernel_rfl) ?cw15R19 ?ch15R19 ?ca15R19 (Eq.refl _) ?cH15R19
          case cw15R19 => (go_simp; done)
          case ch15R19 =>
            intro ds w' hS K hK
            have hc := (bcell hS).1
            have hf := (bcell hS).2
            have hz := hS.size
            try simp at hz
            go_simp
            try go_bits
            first
              | exact hK _ hS (Gr.refl _)
              | exact hK _ (by repeat (first | (with_reducible exact Below.refl _ _) | (with_reducible assumption) | ((with_reducible refine Below.setCell ?_ ?_ _); rotate_left; · (first | exact Nat.le_refl _ | (simp; done) | (simp; omega) | omega)) | ((with_reducible refine Below.alloc ?_ ?_ _); rotate_left; · (first | exact Nat.le_refl _ | (simp; done) | (simp; omega) | omega)) | (with_reducible apply Below.drew) | (with_reducible apply below_drewN') | (refine Below.trans ?_ (Below.mono (by assumption) (by first | exact Nat.le_refl _ | (simp; done) | (simp; omega) | omega))) | exact Below.refl _ _ | assumption)) (by repeat (first | (with_reducible exact Below.refl _ _) | (with_reducible assumption) | ((with_reducible refine Below.setCell ?_ ?_ _); rotate_left; · (first | exact Nat.le_refl _ | (simp; done) | (simp; omega) | omega)) | ((with_reducible refine Below.alloc ?_ ?_ _); rotate_left; · (first | exact Nat.le_refl _ | (simp; done) | (simp; omega) | omega)) | (with_reducible apply Below.drew) | (with_reducible apply below_drewN') | (refine Below.trans ?_ (Below.mono (by assumption) (by first | exact Nat.le_refl _ | (simp; done) | (simp; omega) | omega))) | exact Below.refl _ _ | assumption))
          case ca15R19 => (first | (simp [Act.put]; done) | (simp [Act.put, *]; done))
          try dsimp only
          refine wpW_det (t' := ?ct16R19) 16 (by rfl) (by kernel_rfl) (NQ_free _) (by kernel_rfl) ?cw16R19 ?ch16R19 ?ca16R19 (Eq.refl _) ?cH16R19
          case cw16R19 => (go_simp; done)
          case ch16R19 =>
            intro ds w' hS K hK
            have hc := (bcell hS).1
            have hf := (bcell hS).2
            have hz := hS.size
            try simp at hz
            go_simp
            try go_bits
            first
              | exact hK _ hS (Gr.refl _)
              | exact hK _ (by repeat (first | (with_reducible exact Below.refl _ _) | (with_reducible assumption) | ((with_reducible refine Below.setCell ?_ ?_ _); rotate_left; · (first | exact Nat.le_refl _ | (simp; done) | (simp; omega) | omega)) | ((with_reducible refine Below.alloc ?_ ?_ _); rotate_left; · (first | exact Nat.le_refl _ | (simp; done) | (simp; omega) | omega)) | (with_reducible apply Below.drew) | (with_reducible apply below_drewN') | (refine Below.trans ?_ (Below.mono (by assumption) (by first | exact Nat.le_refl _ | (simp; done) | (simp; omega) | omega))) | exact Below.refl _ _ | assumption)) (by repeat (first | (with_reducible exact Below.refl _ _) | (with_reducible assumption) | ((with_reducible refine Below.setCell ?_ ?_ _); rotate_left; · (first | exact Nat.le_refl _ | (simp; done) | (simp; omega) | omega)) | ((with_reducible refine Below.alloc ?_ ?_ _); rotate_left; · (first | exact Nat.le_refl _ | (simp; done) | (simp; omega) | omega)) | (with_reducible apply Below.drew) | (with_reducible apply below_drewN') | (refine Below.trans ?_ (Below.mono (by assumption) (by first | exact Nat.le_refl _ | (simp; done) | (simp; omega) | omega))) | exact Below.refl _ _ | assumption))
          case ca16R19 => (first | (simp [Act.put]; done) | (simp [Act.put, *]; done))
          try dsimp only
          refine wpW_det (t' := ?ct17R19) 17 (by rfl) (by kernel_rfl) (NQ_free _) (by kernel_rfl) ?cw17R19 ?ch17R19 ?ca17R19 (Eq.refl _) ?cH17R19
          case cw17R19 => (go_simp; done)
          case ch17R19 =>
            intro ds w' hS K hK
            have hc := (bcell hS).1
            have hf := (bcell hS).2
            have hz := hS.size
            try simp at hz
            go_simp
            try go_bits
            first
              | exact hK _ hS (Gr.refl _)
              | exact hK _ (by repeat (first | (with_reducible exact Below.refl _ _) | (with_reducible assumption) | ((with_reducible refine Below.setCell ?_ ?_ _); rotate_left; · (first | exact Nat.le_refl _ | (simp; done) | (simp; omega) | omega)) | ((with_reducible refine Below.alloc ?_ ?_ _); rotate_left; · (first | exact Nat.le_refl _ | (simp; done) | (simp; omega) | omega)) | (with_reducible apply Below.drew) | (with_reducible apply below_drewN') | (refine Below.trans ?_ (Below.mono (by assumption) (by first | exact Nat.le_refl _ | (simp; done) | (simp; omega) | omega))) | exact Below.refl _ _ | assumption)) (by repeat (first | (with_reducible exact Below.refl _ _) | (with_reducible assumption) | ((with_reducible refine Below.setCell ?_ ?_ _); rotate_left; · (first | exact Nat.le_refl _ | (simp; done) | (simp; omega) | omega)) | ((with_reducible refine Below.alloc ?_ ?_ _); rotate_left; · (first | exact Nat.le_refl _ | (simp; done) | (simp; omega) | omega)) | (with_reducible apply Below.drew) | (with_reducible apply below_drewN') | (refine Below.trans ?_ (Below.mono (by assumption) (by first | exact Nat.le_refl _ | (simp; done) | (simp; omega) | omega))) | exact Below.refl _ _ | assumption))
          case ca17R19 => (first | (simp [Act.put]; done) | (simp [Act.put, *]; done))
          try dsimp only
          refine wpW_det (t' := ?ct18R19) 18 (by rfl) (by kernel_rfl) (NQ_free _) (by kernel_rfl) ?cw18R19 ?ch18R19 ?ca18R19 (Eq.refl _) ?cH18R19
          case cw18R19 => (go_simp; done)
          case ch18R19 =>
            intro ds w' hS K hK
            have hc := (bcell hS).1
            have hf := (bcell hS).2
            have hz := hS.size
            try simp at hz
            go_simp
            try go_bits
            first
              | exact hK _ hS (Gr.refl _)
              | exact hK _ (by repeat (first | (with_reducible exact Below.refl _ _) | (with_reducible assumption) | ((with_reducible refine Below.setCell ?_ ?_ _); rotate_left; · (first | exact Nat.le_refl _ | (simp; done) | (simp; omega) | omega)) | ((with_reducible refine Below.alloc ?_ ?_ _); rotate_left; · (first | exact Nat.le_refl _ | (simp; done) | (simp; omega) | omega)) | (with_reducible apply Below.drew) | (with_reducible apply below_drewN') | (refine Below.trans ?_ (Below.mono (by assumption) (by first | exact Nat.le_refl _ | (simp; done) | (simp; omega) | omega))) | exact Below.refl _ _ | assumption)) (by repeat (first | (with_reducible exact Below.refl _ _) | (with_reducible assumption) | ((with_reducible refine Below.setCell ?_ ?_ _); rotate_left; · (first | exact Nat.le_refl _ | (simp; done) | (simp; omega) | omega)) | ((with_reducible refine Below.alloc ?_ ?_ _); rotate_left; · (first | exact Nat.le_refl _ | (simp; done) | (simp; omega) | omega)) | (with_reducible apply Below.drew) | (with_reducible apply below_drewN') | (refine Below.trans ?_ (Below.mono (by assumption) (by first | exact Nat.le_refl _ | (simp; done) | (simp; omega) | omega))) | exact Below.refl _ _ | assumption))
          case ca18R19 => (first | (simp [Act.put]; done) | (simp [Act.put, *]; done))
          try dsimp only
          refine wpW_det (t' := ?ct19R19) 19 (by rfl) (by kernel_rfl) (NQ_free _) (by kernel_rfl) ?cw19R19 ?ch19R19 ?ca19R19 (Eq.refl _) ?cH19R19
          case cw19R19 => (go_simp; done)
          case ch19R19 =>
            intro ds w' hS K hK
            have hc := (bcell hS).1
            have hf := (bcell hS).2
            have hz := hS.size
            try simp at hz
            go_simp
            try go_bits
            first
              | exact hK _ hS (Gr.refl _)
              | exact hK _ (by repeat (first | (with_reducible exact Below.refl _ _) | (with_reducible assumption) | ((with_reducible refine Below.setCell ?_ ?_ _); rotate_left; · (first | exact Nat.le_refl _ | (simp; done) | (simp; omega) | omega)) | ((with_reducible refine Below.alloc ?_ ?_ _); rotate_left; · (first | exact Nat.le_refl _ | (simp; done) | (simp; omega) | omega)) | (with_reducible apply Below.drew) | (with_reducible apply below_drewN') | (refine Below.trans ?_ (Below.mono (by assumption) (by first | exact Nat.le_refl _ | (simp; done) | (simp; omega) | omega))) | exact Below.refl _ _ | assumption)) (by repeat (first | (with_reducible exact Below.refl _ _) | (with_reducible assumption) | ((with_reducible refine Below.setCell ?_ ?_ _); rotate_left; · (first | exact Nat.le_refl _ | (simp; done) | (simp; omega) | omega)) | ((with_reducible refine Below.alloc ?_ ?_ _); rotate_left; · (first | exact Nat.le_refl _ | (simp; done) | (simp; omega) | omega)) | (with_reducible apply Below.drew) | (with_reducible apply below_drewN') | (refine Below.trans ?_ (Below.mono (by assumption) (by first | exact Nat.le_refl _ | (simp; done) | (simp; omega) | omega))) | exact Below.refl _ _ | assumption))
          case ca19R19 => (first | (simp [Act.put]; done) | (simp [Act.put, *]; done))
          try dsimp only
          refine wpW_det (t' := ?ct20R19) 20 (by rfl) (by kernel_rfl) (NQ_free _) (by kernel_rfl) ?cw20R19 ?ch20R19 ?ca20R19 (Eq.refl _) ?cH20R19
          case cw20R19 => (go_simp; done)
          case ch20R19 =>
            intro ds w' hS K hK
            have hc := (bcell hS).1
            have hf := (bcell hS).2
            have hz := hS.size
            try simp at hz
            go_simp
            try go_bits
            first
              | exact hK _ hS (Gr.refl _)
              | exact hK _ (by repeat (first | (with_reducible exact Below.refl _ _) | (with_reducible assumption) | ((with_reducible refine Below.setCell ?_ ?_ _); rotate_left; · (first | exact Nat.le_refl _ | (simp; done) | (simp; omega) | omega)) | ((with_reducible refine Below.alloc ?_ ?_ _); rotate_left; · (first | exact Nat.le_refl _ | (simp; done) | (simp; omega) | omega)) | (with_reducible apply Below.drew) | (with_reducible apply below_drewN') | (refine Below.trans ?_ (Below.mono (by assumption) (by first | exact Nat.le_refl _ | (simp; done) | (simp; omega) | omega))) | exact Below.refl _ _ | assumption)) (by repeat (first | (with_reducible exact Below.refl _ _) | (with_reducible assumption) | ((with_reducible refine Below.setCell ?_ ?_ _); rotate_left; · (first | exact Nat.le_refl _ | (simp; done) | (simp; omega) | omega)) | ((with_reducible refine Below.alloc ?_ ?_ _); rotate_left; · (first | exact Nat.le_refl _ | (simp; done) | (simp; omega) | omega)) | (with_reducible apply Below.drew) | (with_reducible apply below_drewN') | (refine Below.trans ?_ (Below.mono (by assumption) (by first | exact Nat.le_refl _ | (simp; done) | (simp; omega) | omega))) | exact Below.refl _ _ | assumption))
          case ca20R19 => (first | (simp [Act.put]; done) | (simp [Act.put, *]; done))
          try dsimp only
          refine wpW_branch [21, 22, 23] (by kernel_rfl) (by simp) ?_
          intro w1 hg1 hS1
          have hc1 := (bcell hg1).1
          have hf1 := (bcell hg1).2
          have hz1 := hg1.size
          try simp at hz1
          refine each_cons ?_ (each_cons ?_ (each_cons ?_ (each_nil)))
          · refine wpOp_go (by rfl) (Eq.refl _) (by go_simp; done) ?_
            intro K hK
            go_simp
            try simp only [Act.put]
            refine hK _ _ (by repeat (first | (with_reducible exact Below.refl _ _) | (with_reducible assumption) | ((with_reducible refine Below.setCell ?_ ?_ _); rotate_left; · (first | exact Nat.le_refl _ | (simp; done) | (simp; omega) | omega)) | ((with_reducible refine Below.alloc ?_ ?_ _); rotate_left; · (first | exact Nat.le_refl _ | (simp; done) | (simp; omega) | omega)) | (with_reducible apply Below.drew) | (with_reducible apply below_drewN') | (refine Below.trans ?_ (Below.mono (by assumption) (by first | exact Nat.le_refl _ | (simp; done) | (simp; omega) | omega))) | exact Below.refl _ _ | assumption)) ?_
            clear hK K
            refine wpW_branch [22, 23] (by kernel_rfl) (by simp) ?_
            intro w2 hg2 hS2
            have hc2 := (bcell hg2).1
            have hf2 := (bcell hg2).2
            have hz2 := hg2.size
            try simp at hz2
            have hl1_2 : w1.heap.size ≤ w2.heap.size := by omega
            try have hm1_2 : w1.heap.size < w2.heap.size := by omega
            refine each_cons ?_ (each_cons ?_ (each_nil))
            · refine wpOp_go (by rfl) (Eq.refl _) (by go_simp; done) ?_
              intro K hK
              go_simp
              try simp only [Act.put]
              refine hK _ _ (by repeat (first | (with_reducible exact Below.refl _ _) | (with_reducible assumption) | ((with_reducible refine Below.setCell ?_ ?_ _); rotate_left; · (first | exact Nat.le_refl _ | (simp; done) | (simp; omega) | omega)) | ((with_reducible refine Below.alloc ?_ ?_ _); rotate_left; · (first | exact Nat.le_refl _ | (simp; done) | (simp; omega) | omega)) | (with_reducible apply Below.drew) | (with_reducible apply below_drewN') | (refine Below.trans ?_ (Below.mono (by assumption) (by first | exact Nat.le_refl _ | (simp; done) | (simp; omega) | omega))) | exact Below.refl _ _ | assumption)) ?_
              clear hK K
              refine wpW_branch [23] (by kernel_rfl) (by simp) ?_
              intro w3 hg3 hS3
              have hc3 := (bcell hg3).1
              have hf3 := (bcell hg3).2
              have hz3 := hg3.size
              try simp at hz3
              have hl1_3 : w1.heap.size ≤ w3.heap.size := by omega
              try have hm1_3 : w1.heap.size < w3.heap.size := by omega
              have hl2_3 : w2.heap.size ≤ w3.heap.size := by omega
              try have hm2_3 : w2.heap.size < w3.heap.size := by omega
              refine each_cons ?_ (each_nil)
              · refine wpOp_go (by rfl) (Eq.refl _) (by go_simp; done) ?_
                intro K hK
                go_simp
                try simp only [Act.put]
                refine hK _ _ (by repeat (first | (with_reducible exact Below.refl _ _) | (with_reducible assumption) | ((with_reducible refine Below.setCell ?_ ?_ _); rotate_left; · (first | exact Nat.le_refl _ | (simp; done) | (simp; omega) | omega)) | ((with_reducible refine Below.alloc ?_ ?_ _); rotate_left; · (first | exact Nat.le_refl _ | (simp; done) | (simp; omega) | omega)) | (with_reducible apply Below.drew) | (with_reducible apply below_drewN') | (refine Below.trans ?_ (Below.mono (by assumption) (by first | exact Nat.le_refl _ | (simp; done) | (simp; omega) | omega))) | exact Below.refl _ _ | assumption)) ?_
                clear hK K
                refine wpW_branch [24] (by kernel_rfl) (by simp) ?_
                intro w4 hg4 hS4
                have hc4 := (bcell hg4).1
                have hf4 := (bcell hg4).2
                have hz4 := hg4.size
                try simp at hz4
                have hl1_4 : w1.heap.size ≤ w4.heap.size := by omega
                try have hm1_4 : w1.heap.size < w4.heap.size := by omega
                have hl2_4 : w2.heap.size ≤ w4.heap.size := by omega
                try have hm2_4 : w2.heap.size < w4.heap.size := by omega
                have hl3_4 : w3.heap.size ≤ w4.heap.size := by omega
                try have hm3_4 : w3.heap.size < w4.heap.size := by omega
                refine each_cons ?_ (each_nil)
                · refine wpOp_go (by rfl) (Eq.refl _) (by go_simp; done) ?_
                  intro K hK
                  go_simp
                  try simp only [Act.put]
                  refine hK _ _ (by repeat (first | (with_reducible exact Below.refl _ _) | (with_reducible assumption) | ((with_reducible refine Below.setCell ?_ ?_ _); rotate_left; · (first | exact Nat.le_refl _ | (simp; done) | (simp; omega) | omega)) | ((with_reducible refine Below.alloc ?_ ?_ _); rotate_left; · (first | exact Nat.le_refl _ | (simp; done) | (simp; omega) | omega)) | (with_reducible apply Below.drew) | (with_reducible apply below_drewN') | (refine Below.trans ?_ (Below.mono (by assumption) (by first | exact Nat.le_refl _ | (simp; done) | (simp; omega) | omega))) | exact Below.refl _ _ | assumption)) ?_
                  clear hK K
                  refine wpW_branch [25] (by kernel_rfl) (by simp) ?_
                  intro w5 hg5 hS5
                  have hc5 := (bcell hg5).1
                  have hf5 := (bcell hg5).2
                  have hz5 := hg5.size
                  try simp at hz5
                  have hl1_5 : w1.heap.size ≤ w5.heap.size := by omega
                  try have hm1_5 : w1.heap.size < w5.heap.size := by omega
                  have hl2_5 : w2.heap.size ≤ w5.heap.size := by omega
                  try have hm2_5 : w2.heap.size < w5.heap.size := by omega
                  have hl3_5 : w3.heap.size ≤ w5.heap.size := by omega
                  try have hm3_5 : w3.heap.size < w5.heap.size := by omega
                  have hl4_5 : w4.heap.size ≤ w5.heap.size := by omega
                  try have hm4_5 : w4.heap.size < w5.heap.size := by omega
                  refine each_cons ?_ (each_nil)
                  · refine wpOp_go (by rfl) (Eq.refl _) (by go_simp; done) ?_
                    intro K hK
                    go_simp
                    try simp only [Act.put]
                    refine hK _ _ (by repeat (first | (with_reducible exact Below.refl _ _) | (with_reducible assumption) | ((with_reducible refine Below.setCell ?_ ?_ _); rotate_left; · (first | exact Nat.le_refl _ | (simp; done) | (simp; omega) | omega)) | ((with_reducible refine Below.alloc ?_ ?_ _); rotate_left; · (first | exact Nat.le_refl _ | (simp; done) | (simp; omega) | omega)) | (with_reducible apply Below.drew) | (with_reducible apply below_drewN') | (refine Below.trans ?_ (Below.mono (by assumption) (by first | exact Nat.le_refl _ | (simp; done) | (simp; omega) | omega))) | exact Below.refl _ _ | assumption)) ?_
                    clear hK K
                    refine wpW_branch [26] (by kernel_rfl) (by simp) ?_
                    intro w6 hg6 hS6
                    have hc6 := (bcell hg6).1
                    have hf6 := (bcell hg6).2
                    have hz6 := hg6.size
                    try simp at hz6
                    have hl1_6 : w1.heap.size ≤ w6.heap.size := by omega
                    try have hm1_6 : w1.heap.size < w6.heap.size := by omega
                    have hl2_6 : w2.heap.size ≤ w6.heap.size := by omega
                    try have hm2_6 : w2.heap.size < w6.heap.size := by omega
                    have hl3_6 : w3.heap.size ≤ w6.heap.size := by omega
                    try have hm3_6 : w3.heap.size < w6.heap.size := by omega
                    have hl4_6 : w4.heap.size ≤ w6.heap.size := by omega
                    try have hm4_6 : w4.heap.size < w6.heap.size := by omega
                    have hl5_6 : w5.heap.size ≤ w6.heap.size := by omega
                    try have hm5_6 : w5.heap.size < w6.heap.size := by omega
                    refine each_cons ?_ (each_nil)
                    · refine wpOp_go (by rfl) (Eq.refl _) (by go_simp; done) ?_
                      intro K hK
                      go_simp
                      try simp only [Act.put]
                      refine hK _ _ (by repeat (first | (with_reducible exact Below.refl _ _) | (with_reducible assumption) | ((with_reducible refine Below.setCell ?_ ?_ _); rotate_left; · (first | exact Nat.le_refl _ | (simp; done) | (simp; omega) | omega)) | ((with_reducible refine Below.alloc ?_ ?_ _); rotate_left; · (first | exact Nat.le_refl _ | (simp; done) | (simp; omega) | omega)) | (with_reducible apply Below.drew) | (with_reducible apply below_drewN') | (refine Below.trans ?_ (Below.mono (by assumption) (by first | exact Nat.le_refl _ | (simp; done) | (simp; omega) | omega))) | exact Below.refl _ _ | assumption)) ?_
                      clear hK K
                      refine wpW_end (by kernel_rfl) ?_
                      intro w7 hg7 hS7
                      have hc7 := (bcell hg7).1
                      have hf7 := (bcell hg7).2
                      have hz7 := hg7.size
                      try simp at hz7
                      have hl1_7 : w1.heap.size ≤ w7.heap.size := by omega
                      try have hm1_7 : w1.heap.size < w7.heap.size := by omega
                      have hl2_7 : w2.heap.size ≤ w7.heap.size := by omega
                      try have hm2_7 : w2.heap.size < w7.heap.size := by omega
                      have hl3_7 : w3.heap.size ≤ w7.heap.size := by omega
                      try have hm3_7 : w3.heap.size < w7.heap.size := by omega
                      have hl4_7 : w4.heap.size ≤ w7.heap.size := by omega
                      try have hm4_7 : w4.heap.size < w7.heap.size := by omega
                      have hl5_7 : w5.heap.size ≤ w7.heap.size := by omega
                      try have hm5_7 : w5.heap.size < w7.heap.size := by omega
                      have hl6_7 : w6.heap.size ≤ w7.heap.size := by omega
                      try have hm6_7 : w6.heap.size < w7.heap.size := by omega
                      unfold NQ
                      dsimp only
                      obtain ⟨g1, g2, g3, gd, gs⟩ := three_new hS1 hg2 hg3 hg4
                      go_wp2_with fail
                      go_meet
                      first
                        | exact ⟨_, _, _, rfl, rfl, rfl, three_set g1 g2 g3 gd.1 gd.2.1 gd.2.2 hg5 hg6 hg7, ⟨gs.1, gs.2.1, gs.2.2⟩, hS7⟩
                        | exact ⟨_, _, _, rfl, rfl, rfl, three_set g1 g3 g2 gd.2.1 gd.1 (Ne.symm gd.2.2) hg5 hg6 hg7, ⟨gs.1, gs.2.2, gs.2.1⟩, hS7⟩
                        | exact ⟨_, _, _, rfl, rfl, rfl, three_set g2 g1 g3 (Ne.symm gd.1) gd.2.2 gd.2.1 hg5 hg6 hg7, ⟨gs.2.1, gs.1, gs.2.2⟩, hS7⟩
                        | exact ⟨_, _, _, rfl, rfl, rfl, three_set g2 g3 g1 gd.2.2 (Ne.symm gd.1) (Ne.symm gd.2.1) hg5 hg6 hg7, ⟨gs.2.1, gs.2.2, gs.1⟩, hS7⟩
                        | exact ⟨_, _, _, rfl, rfl, rfl, three_set g3 g1 g2 (Ne.symm gd.2.1) (Ne.symm gd.2.2) gd.1 hg5 hg6 hg7, ⟨gs.2.2, gs.1, gs.2.1⟩, hS7⟩
                        | exact ⟨_, _, _, rfl, rfl, rfl, three_set g3 g2 g1 (Ne.symm gd.2.2) (Ne.symm gd.2.1) (Ne.symm gd.1) hg5 hg6 hg7, ⟨gs.2.2, gs.2.1, gs.1⟩, hS7⟩
            · refine wpOp_go (by rfl) (Eq.refl _) (by go_simp; done) ?_
              intro K hK
              go_simp
              try simp only [Act.put]
              refine hK _ _ (by repeat (first | (with_reducible exact Below.refl _ _) | (with_reducible assumption) | ((with_reducible refine Below.setCell ?_ ?_ _); rotate_left; · (first | exact Nat.le_refl _ | (simp; done) | (simp; omega) | omega)) | ((with_reducible refine Below.alloc ?_ ?_ _); rotate_left; · (first | exact Nat.le_refl _ | (simp; done) | (simp; omega) | omega)) | (with_reducible apply Below.drew) | (with_reducible apply below_drewN') | (refine Below.trans ?_ (Below.mono (by assumption) (by first | exact Nat.le_refl _ | (simp; done) | (simp; omega) | omega))) | exact Below.refl _ _ | assumption)) ?_
              clear hK K
              refine wpW_branch [22] (by kernel_rfl) (by simp) ?_
              intro w3 hg3 hS3
              have hc3 := (bcell hg3).1
              have hf3 := (bcell hg3).2
              have hz3 := hg3.size
              try simp at hz3
              have hl1_3 : w1.heap.size ≤ w3.heap.size := by omega
              try have hm1_3 : w1.heap.size < w3.heap.size := by omega
              have hl2_3 : w2.heap.size ≤ w3.heap.size := by omega
              try have hm2_3 : w2.heap.size < w3.heap.size := by omega
              refine each_cons ?_ (each_nil)
              · refine wpOp_go (by rfl) (Eq.refl _) (by go_simp; done) ?_
                intro K hK
                go_simp
                try simp only [Act.put]
                refine hK _ _ (by repeat (first | (with_reducible exact Below.refl _ _) | (with_reducible assumption) | ((with_reducible refine Below.setCell ?_ ?_ _); rotate_left; · (first | exact Nat.le_refl _ | (simp; done) | (simp; omega) | omega)) | ((with_reducible refine Below.alloc ?_ ?_ _); rotate_left; · (first | exact Nat.le_refl _ | (simp; done) | (simp; omega) | omega)) | (with_reducible apply Below.drew) | (with_reducible apply below_drewN') | (refine Below.trans ?_ (Below.mono (by assumption) (by first | exact Nat.le_refl _ | (simp; done) | (simp; omega) | omega))) | exact Below.refl _ _ | assumption)) ?_
                clear hK K
                refine wpW_branch [24] (by kernel_rfl) (by simp) ?_
                intro w4 hg4 hS4
                have hc4 := (bcell hg4).1
                have hf4 := (bcell hg4).2
                have hz4 := hg4.size
                try simp at hz4
                have hl1_4 : w1.heap.size ≤ w4.heap.size := by omega
                try have hm1_4 : w1.heap.size < w4.heap.size := by omega
                have hl2_4 : w2.heap.size ≤ w4.heap.size := by omega
                try have hm2_4 : w2.heap.size < w4.heap.size := by omega
                have hl3_4 : w3.heap.size ≤ w4.heap.size := by omega
                try have hm3_4 : w3.heap.size < w4.heap.size := by omega
                refine each_cons ?_ (each_nil)
                · refine wpOp_go (by rfl) (Eq.refl _) (by go_simp; done) ?_
                  intro K hK
                  go_simp
                  try simp only [Act.put]
                  refine hK _ _ (by repeat (first | (with_reducible exact Below.refl _ _) | (with_reducible assumption) | ((with_reducible refine Below.setCell ?_ ?_ _); rotate_left; · (first | exact Nat.le_refl _ | (simp; done) | (simp; omega) | omega)) | ((with_reducible refine Below.alloc ?_ ?_ _); rotate_left; · (first | exact Nat.le_refl _ | (simp; done) | (simp; omega) | omega)) | (with_reducible apply Below.drew) | (with_reducible apply below_drewN') | (refine Below.trans ?_ (Below.mono (by assumption) (by first | exact Nat.le_refl _ | (simp; done) | (simp; omega) | omega))) | exact Below.refl _ _ | assumption)) ?_
                  clear hK K
                  refine wpW_branch [25] (by kernel_rfl) (by simp) ?_
                  intro w5 hg5 hS5
                  have hc5 := (bcell hg5).1
                  have hf5 := (bcell hg5).2
                  have hz5 := hg5.size
                  try simp at hz5
                  have hl1_5 : w1.heap.size ≤ w5.heap.size := by omega
                  try have hm1_5 : w1.heap.size < w5.heap.size := by omega
                  have hl2_5 : w2.heap.size ≤ w5.heap.size := by omega
                  try have hm2_5 : w2.heap.size < w5.heap.size := by omega
                  have hl3_5 : w3.heap.size ≤ w5.heap.size := by omega
                  try have hm3_5 : w3.heap.size < w5.heap.size := by omega
                  have hl4_5 : w4.heap.size ≤ w5.heap.size := by omega
                  try have hm4_5 : w4.heap.size < w5.heap.size := by omega
                  refine each_cons ?_ (each_nil)
                  · refine wpOp_go (by rfl) (Eq.refl _) (by go_simp; done) ?_
                    intro K hK
                    go_simp
                    try simp only [Act.put]
                    refine hK _ _ (by repeat (first | (with_reducible exact Below.refl _ _) | (with_reducible assumption) | ((with_reducible refine Below.setCell ?_ ?_ _); rotate_left; · (first | exact Nat.le_refl _ | (simp; done) | (simp; omega) | omega)) | ((with_reducible refine Below.alloc ?_ ?_ _); rotate_left; · (first | exact Nat.le_refl _ | (simp; done) | (simp; omega) | omega)) | (with_reducible apply Below.drew) | (with_reducible apply below_drewN') | (refine Below.trans ?_ (Below.mono (by assumption) (by first | exact Nat.le_refl _ | (simp; done) | (simp; omega) | omega))) | exact Below.refl _ _ | assumption)) ?_
                    clear hK K
                    refine wpW_branch [26] (by kernel_rfl) (by simp) ?_
                    intro w6 hg6 hS6
                    have hc6 := (bcell hg6).1
                    have hf6 := (bcell hg6).2
                    have hz6 := hg6.size
                    try simp at hz6
                    have hl1_6 : w1.heap.size ≤ w6.heap.size := by omega
                    try have hm1_6 : w1.heap.size < w6.heap.size := by omega
                    have hl2_6 : w2.heap.size ≤ w6.heap.size := by omega
                    try have hm2_6 : w2.heap.size < w6.heap.size := by omega
                    have hl3_6 : w3.heap.size ≤ w6.heap.size := by omega
                    try have hm3_6 : w3.heap.size < w6.heap.size := by omega
                    have hl4_6 : w4.heap.size ≤ w6.heap.size := by omega
                    try have hm4_6 : w4.heap.size < w6.heap.size := by omega
                    have hl5_6 : w5.heap.size ≤ w6.heap.size := by omega
                    try have hm5_6 : w5.heap.size < w6.heap.size := by omega
                    refine each_cons ?_ (each_nil)
                    · refine wpOp_go (by rfl) (Eq.refl _) (by go_simp; done) ?_
                      intro K hK
                      go_simp
                      try simp only [Act.put]
                      refine hK _ _ (by repeat (first | (with_reducible exact Below.refl _ _) | (with_reducible assumption) | ((with_reducible refine Below.setCell ?_ ?_ _); rotate_left; · (first | exact Nat.le_refl _ | (simp; done) | (simp; omega) | omega)) | ((with_reducible refine Below.alloc ?_ ?_ _); rotate_left; · (first | exact Nat.le_refl _ | (simp; done) | (simp; omega) | omega)) | (with_reducible apply Below.drew) | (with_reducible apply below_drewN') | (refine Below.trans ?_ (Below.mono (by assumption) (by first | exact Nat.le_refl _ | (simp; done) | (simp; omega) | omega))) | exact Below.refl _ _ | assumption)) ?_
                      clear hK K
                      refine wpW_end (by kernel_rfl) ?_
                      intro w7 hg7 hS7
                      have hc7 := (bcell hg7).1
                      have hf7 := (bcell hg7).2
                      have hz7 := hg7.size
                      try simp at hz7
                      have hl1_7 : w1.heap.size ≤ w7.heap.size := by omega
                      try have hm1_7 : w1.heap.size < w7.heap.size := by omega
                      have hl2_7 : w2.heap.size ≤ w7.heap.size := by omega
                      try have hm2_7 : w2.heap.size < w7.heap.size := by omega
                      have hl3_7 : w3.heap.size ≤ w7.heap.size := by omega
                      try have hm3_7 : w3.heap.size < w7.heap.size := by omega
                      have hl4_7 : w4.heap.size ≤ w7.heap.size := by omega
                      try have hm4_7 : w4.heap.size < w7.heap.size := by omega
                      have hl5_7 : w5.heap.size ≤ w7.heap.size := by omega
                      try have hm5_7 : w5.heap.size < w7.heap.size := by omega
                      have hl6_7 : w6.heap.size ≤ w7.heap.size := by omega
                      try have hm6_7 : w6.heap.size < w7.heap.size := by omega
                      unfold NQ
                      dsimp only
                      obtain ⟨g1, g2, g3, gd, gs⟩ := three_new hS1 hg2 hg3 hg4
                      go_wp2_with fail
                      go_meet
                      first
                        | exact ⟨_, _, _, rfl, rfl, rfl, three_set g1 g2 g3 gd.1 gd.2.1 gd.2.2 hg5 hg6 hg7, ⟨gs.1, gs.2.1, gs.2.2⟩, hS7⟩
                        | exact ⟨_, _, _, rfl, rfl, rfl, three_set g1 g3 g2 gd.2.1 gd.1 (Ne.symm gd.2.2) hg5 hg6 hg7, ⟨gs.1, gs.2.2, gs.2.1⟩, hS7⟩
                        | exact ⟨_, _, _, rfl, rfl, rfl, three_set g2 g1 g3 (Ne.symm gd.1) gd.2.2 gd.2.1 hg5 hg6 hg7, ⟨gs.2.1, gs.1, gs.2.2⟩, hS7⟩
                        | exact ⟨_, _, _, rfl, rfl, rfl, three_set g2 g3 g1 gd.2.2 (Ne.symm gd.1) (Ne.symm gd.2.1) hg5 hg6 hg7, ⟨gs.2.1, gs.2.2, gs.1⟩, hS7⟩
                        | exact ⟨_, _, _, rfl, rfl, rfl, three_set g3 g1 g2 (Ne.symm gd.2.1) (Ne.symm gd.2.2) gd.1 hg5 hg6 hg7, ⟨gs.2.2, gs.1, gs.2.1⟩, hS7⟩
                        | exact ⟨_, _, _, rfl, rfl, rfl, three_set g3 g2 g1 (Ne.symm gd.2.2) (Ne.symm gd.2.1) (Ne.symm gd.1) hg5 hg6 hg7, ⟨gs.2.2, gs.2.1, gs.1⟩, hS7⟩
          · refine wpOp_go (by rfl) (Eq.refl _) (by go_simp; done) ?_
            intro K hK
            go_simp
            try simp only [Act.put]
            refine hK _ _ (by repeat (first | (with_reducible exact Below.refl _ _) | (with_reducible assumption) | ((with_reducible refine Below.setCell ?_ ?_ _); rotate_left; · (first | exact Nat.le_refl _ | (simp; done) | (simp; omega) | omega)) | ((with_reducible refine Below.alloc ?_ ?_ _); rotate_left; · (first | exact Nat.le_refl _ | (simp; done) | (simp; omega) | omega)) | (with_reducible apply Below.drew) | (with_reducible apply below_drewN') | (refine Below.trans ?_ (Below.mono (by assumption) (by first | exact Nat.le_refl _ | (simp; done) | (simp; omega) | omega))) | exact Below.refl _ _ | assumption)) ?_
            clear hK K
            refine wpW_branch [21, 23] (by kernel_rfl) (by simp) ?_
            intro w2 hg2 hS2
            have hc2 := (bcell hg2).1
            have hf2 := (bcell hg2).2
            have hz2 := hg2.size
            try simp at hz2
            have hl1_2 : w1.heap.size ≤ w2.heap.size := by omega
            try have hm1_2 : w1.heap.size < w2.heap.size := by omega
            refine each_cons ?_ (each_cons ?_ (each_nil))
            · refine wpOp_go (by rfl) (Eq.refl _) (by go_simp; done) ?_
              intro K hK
              go_simp
              try simp only [Act.put]
              refine hK _ _ (by repeat (first | (with_reducible exact Below.refl _ _) | (with_reducible assumption) | ((with_reducible refine Below.setCell ?_ ?_ _); rotate_left; · (first | exact Nat.le_refl _ | (simp; done) | (simp; omega) | omega)) | ((with_reducible refine Below.alloc ?_ ?_ _); rotate_left; · (first | exact Nat.le_refl _ | (simp; done) | (simp; omega) | omega)) | (with_reducible apply Below.drew) | (with_reducible apply below_drewN') | (refine Below.trans ?_ (Below.mono (by assumption) (by first | exact Nat.le_refl _ | (simp; done) | (simp; omega) | omega))) | exact Below.refl _ _ | assumption)) ?_
              clear hK K
              refine wpW_branch [23] (by kernel_rfl) (by simp) ?_
              intro w3 hg3 hS3
              have hc3 := (bcell hg3).1
              have hf3 := (bcell hg3).2
              have hz3 := hg3.size
              try simp at hz3
              have hl1_3 : w1.heap.size ≤ w3.heap.size := by omega
              try have hm1_3 : w1.heap.size < w3.heap.size := by omega
              have hl2_3 : w2.heap.size ≤ w3.heap.size := by omega
              try have hm2_3 : w2.heap.size < w3.heap.size := by omega
              refine each_cons ?_ (each_nil)
              · refine wpOp_go (by rfl) (Eq.refl _) (by go_simp; done) ?_
                intro K hK
                go_simp
                try simp only [Act.put]
                refine hK _ _ (by repeat (first | (with_reducible exact Below.refl _ _) | (with_reducible assumption) | ((with_reducible refine Below.setCell ?_ ?_ _); rotate_left; · (first | exact Nat.le_refl _ | (simp; done) | (simp; omega) | omega)) | ((with_reducible refine Below.alloc ?_ ?_ _); rotate_left; · (first | exact Nat.le_refl _ | (simp; done) | (simp; omega) | omega)) | (with_reducible apply Below.drew) | (with_reducible apply below_drewN') | (refine Below.trans ?_ (Below.mono (by assumption) (by first | exact Nat.le_refl _ | (simp; done) | (simp; omega) | omega))) | exact Below.refl _ _ | assumption)) ?_
                clear hK K
                refine wpW_branch [24] (by kernel_rfl) (by simp) ?_
                intro w4 hg4 hS4
                have hc4 := (bcell hg4).1
                have hf4 := (bcell hg4).2
                have hz4 := hg4.size
                try simp at hz4
                have hl1_4 : w1.heap.size ≤ w4.heap.size := by omega
                try have hm1_4 : w1.heap.size < w4.heap.size := by omega
                have hl2_4 : w2.heap.size ≤ w4.heap.size := by omega
                try have hm2_4 : w2.heap.size < w4.heap.size := by omega
                have hl3_4 : w3.heap.size ≤ w4.heap.size := by omega
                try have hm3_4 : w3.heap.size < w4.heap.size := by omega
                refine each_cons ?_ (each_nil)
                · refine wpOp_go (by rfl) (Eq.refl _) (by go_simp; done) ?_
                  intro K hK
                  go_simp
                  try simp only [Act.put]
                  refine hK _ _ (by repeat (first | (with_reducible exact Below.refl _ _) | (with_reducible assumption) | ((with_reducible refine Below.setCell ?_ ?_ _); rotate_left; · (first | exact Nat.le_refl _ | (simp; done) | (simp; omega) | omega)) | ((with_reducible refine Below.alloc ?_ ?_ _); rotate_left; · (first | exact Nat.le_refl _ | (simp; done) | (simp; omega) | omega)) | (with_reducible apply Below.drew) | (with_reducible apply below_drewN') | (refine Below.trans ?_ (Below.mono (by assumption) (by first | exact Nat.le_refl _ | (simp; done) | (simp; omega) | omega))) | exact Below.refl _ _ | assumption)) ?_
                  clear hK K
                  refine wpW_branch [25] (by kernel_rfl) (by simp) ?_
                  intro w5 hg5 hS5
                  have hc5 := (bcell hg5).1
                  have hf5 := (bcell hg5).2
                  have hz5 := hg5.size
                  try simp at hz5
                  have hl1_5 : w1.heap.size ≤ w5.heap.size := by omega
                  try have hm1_5 : w1.heap.size < w5.heap.size := by omega
                  have hl2_5 : w2.heap.size ≤ w5.heap.size := by omega
                  try have hm2_5 : w2.heap.size < w5.heap.size := by omega
                  have hl3_5 : w3.heap.size ≤ w5.heap.size := by omega
                  try have hm3_5 : w3.heap.size < w5.heap.size := by omega
                  have hl4_5 : w4.heap.size ≤ w5.heap.size := by omega
                  try have hm4_5 : w4.heap.size < w5.heap.size := by omega
                  refine each_cons ?_ (each_nil)
                  · refine wpOp_go (by rfl) (Eq.refl _) (by go_simp; done) ?_
                    intro K hK
                    go_simp
                    try simp only [Act.put]
                    refine hK _ _ (by repeat (first | (with_reducible exact Below.refl _ _) | (with_reducible assumption) | ((with_reducible refine Below.setCell ?_ ?_ _); rotate_left; · (first | exact Nat.le_refl _ | (simp; done) | (simp; omega) | omega)) | ((with_reducible refine Below.alloc ?_ ?_ _); rotate_left; · (first | exact Nat.le_refl _ | (simp; done) | (simp; omega) | omega)) | (with_reducible apply Below.drew) | (with_reducible apply below_drewN') | (refine Below.trans ?_ (Below.mono (by assumption) (by first | exact Nat.le_refl _ | (simp; done) | (simp; omega) | omega))) | exact Below.refl _ _ | assumption)) ?_
                    clear hK K
                    refine wpW_branch [26] (by kernel_rfl) (by simp) ?_
                    intro w6 hg6 hS6
                    have hc6 := (bcell hg6).1
                    have hf6 := (bcell hg6).2
                    have hz6 := hg6.size
                    try simp at hz6
                    have hl1_6 : w1.heap.size ≤ w6.heap.size := by omega
                    try have hm1_6 : w1.heap.size < w6.heap.size := by omega
                    have hl2_6 : w2.heap.size ≤ w6.heap.size := by omega
                    try have hm2_6 : w2.heap.size < w6.heap.size := by omega
                    have hl3_6 : w3.heap.size ≤ w6.heap.size := by omega
                    try have hm3_6 : w3.heap.size < w6.heap.size := by omega
                    have hl4_6 : w4.heap.size ≤ w6.heap.size := by omega
                    try have hm4_6 : w4.heap.size < w6.heap.size := by omega
                    have hl5_6 : w5.heap.size ≤ w6.heap.size := by omega
                    try have hm5_6 : w5.heap.size < w6.heap.size := by omega
                    refine each_cons ?_ (each_nil)
                    · refine wpOp_go (by rfl) (Eq.refl _) (by go_simp; done) ?_
                      intro K hK
                      go_simp
                      try simp only [Act.put]
                      refine hK _ _ (by repeat (first | (with_reducible exact Below.refl _ _) | (with_reducible assumption) | ((with_reducible refine Below.setCell ?_ ?_ _); rotate_left; · (first | exact Nat.le_refl _ | (simp; done) | (simp; omega) | omega)) | ((with_reducible refine Below.alloc ?_ ?_ _); rotate_left; · (first | exact Nat.le_refl _ | (simp; done) | (simp; omega) | omega)) | (with_reducible apply Below.drew) | (with_reducible apply below_drewN') | (refine Below.trans ?_ (Below.mono (by assumption) (by first | exact Nat.le_refl _ | (simp; done) | (simp; omega) | omega))) | exact Below.refl _ _ | assumption)) ?_
                      clear hK K
                      refine wpW_end (by kernel_rfl) ?_
                      intro w7 hg7 hS7
                      have hc7 := (bcell hg7).1
                      have hf7 := (bcell hg7).2
                      have hz7 := hg7.size
                      try simp at hz7
                      have hl1_7 : w1.heap.size ≤ w7.heap.size := by omega
                      try have hm1_7 : w1.heap.size < w7.heap.size := by omega
                      have hl2_7 : w2.heap.size ≤ w7.heap.size := by omega
                      try have hm2_7 : w2.heap.size < w7.heap.size := by omega
                      have hl3_7 : w3.heap.size ≤ w7.heap.size := by omega
                      try have hm3_7 : w3.heap.size < w7.heap.size := by omega
                      have hl4_7 : w4.heap.size ≤ w7.heap.size := by omega
                      try have hm4_7 : w4.heap.size < w7.heap.size := by omega
                      have hl5_7 : w5.heap.size ≤ w7.heap.size := by omega
                      try have hm5_7 : w5.heap.size < w7.heap.size := by omega
                      have hl6_7 : w6.heap.size ≤ w7.heap.size := by omega
                      try have hm6_7 : w6.heap.size < w7.heap.size := by omega
                      unfold NQ
                      dsimp only
                      obtain ⟨g1, g2, g3, gd, gs⟩ := three_new hS1 hg2 hg3 hg4
                      go_wp2_with fail
                      go_meet
                      first
                        | exact ⟨_, _, _, rfl, rfl, rfl, three_set g1 g2 g3 gd.1 gd.2.1 gd.2.2 hg5 hg6 hg7, ⟨gs.1, gs.2.1, gs.2.2⟩, hS7⟩
                        | exact ⟨_, _, _, rfl, rfl, rfl, three_set g1 g3 g2 gd.2.1 gd.1 (Ne.symm gd.2.2) hg5 hg6 hg7, ⟨gs.1, gs.2.2, gs.2.1⟩, hS7⟩
                        | exact ⟨_, _, _, rfl, rfl, rfl, three_set g2 g1 g3 (Ne.symm gd.1) gd.2.2 gd.2.1 hg5 hg6 hg7, ⟨gs.2.1, gs.1, gs.2.2⟩, hS7⟩
                        | exact ⟨_, _, _, rfl, rfl, rfl, three_set g2 g3 g1 gd.2.2 (Ne.symm gd.1) (Ne.symm gd.2.1) hg5 hg6 hg7, ⟨gs.2.1, gs.2.2, gs.1⟩, hS7⟩
                        | exact ⟨_, _, _, rfl, rfl, rfl, three_set g3 g1 g2 (Ne.symm gd.2.1) (Ne.symm gd.2.2) gd.1 hg5 hg6 hg7, ⟨gs.2.2, gs.1, gs.2.1⟩, hS7⟩
                        | exact ⟨_, _, _, rfl, rfl, rfl, three_set g3 g2 g1 (Ne.symm gd.2.2) (Ne.symm gd.2.1) (Ne.symm gd.1) hg5 hg6 hg7, ⟨gs.2.2, gs.2.1, gs.1⟩, hS7⟩
            · refine wpOp_go (by rfl) (Eq.refl _) (by go_simp; done) ?_
              intro K hK
              go_simp
              try simp only [Act.put]
              refine hK _ _ (by repeat (first | (with_reducible exact Below.refl _ _) | (with_reducible assumption) | ((with_reducible refine Below.setCell ?_ ?_ _); rotate_left; · (first | exact Nat.le_refl _ | (simp; done) | (simp; omega) | omega)) | ((with_reducible refine Below.alloc ?_ ?_ _); rotate_left; · (first | exact Nat.le_refl _ | (simp; done) | (simp; omega) | omega)) | (with_reducible apply Below.drew) | (with_reducible apply below_drewN') | (refine Below.trans ?_ (Below.mono (by assumption) (by first | exact Nat.le_refl _ | (simp; done) | (simp; omega) | omega))) | exact Below.refl _ _ | assumption)) ?_
              clear hK K
              refine wpW_branch [21] (by kernel_rfl) (by simp) ?_
              intro w3 hg3 hS3
              have hc3 := (bcell hg3).1
              have hf3 := (bcell hg3).2
              have hz3 := hg3.size
              try simp at hz3
              have hl1_3 : w1.heap.size ≤ w3.heap.size := by omega
              try have hm1_3 : w1.heap.size < w3.heap.size := by omega
              have hl2_3 : w2.heap.size ≤ w3.heap.size := by omega
              try have hm2_3 : w2.heap.size < w3.heap.size := by omega
              refine each_cons ?_ (each_nil)
              · refine wpOp_go (by rfl) (Eq.refl _) (by go_simp; done) ?_
                intro K hK
                go_simp
                try simp only [Act.put]
                refine hK _ _ (by repeat (first | (with_reducible exact Below.refl _ _) | (with_reducible assumption) | ((with_reducible refine Below.setCell ?_ ?_ _); rotate_left; · (first | exact Nat.le_refl _ | (simp; done) | (simp; omega) | omega)) | ((with_reducible refine Below.alloc ?_ ?_ _); rotate_left; · (first | exact Nat.le_refl _ | (simp; done) | (simp; omega) | omega)) | (with_reducible apply Below.drew) | (with_reducible apply below_drewN') | (refine Below.trans ?_ (Below.mono (by assumption) (by first | exact Nat.le_refl _ | (simp; done) | (simp; omega) | omega))) | exact Below.refl _ _ | assumption)) ?_
                clear hK K
                refine wpW_branch [24] (by kernel_rfl) (by simp) ?_
                intro w4 hg4 hS4
                have hc4 := (bcell hg4).1
                have hf4 := (bcell hg4).2
                have hz4 := hg4.size
                try simp at hz4
                have hl1_4 : w1.heap.size ≤ w4.heap.size := by omega
                try have hm1_4 : w1.heap.size < w4.heap.size := by omega
                have hl2_4 : w2.heap.size ≤ w4.heap.size := by omega
                try have hm2_4 : w2.heap.size < w4.heap.size := by omega
                have hl3_4 : w3.heap.size ≤ w4.heap.size := by omega
                try have hm3_4 : w3.heap.size < w4.heap.size := by omega
                refine each_cons ?_ (each_nil)
                · refine wpOp_go (by rfl) (Eq.refl _) (by go_simp; done) ?_
                  intro K hK
                  go_simp
                  try simp only [Act.put]
                  refine hK _ _ (by repeat (first | (with_reducible exact Below.refl _ _) | (with_reducible assumption) | ((with_reducible refine Below.setCell ?_ ?_ _); rotate_left; · (first | exact Nat.le_refl _ | (simp; done) | (simp; omega) | omega)) | ((with_reducible refine Below.alloc ?_ ?_ _); rotate_left; · (first | exact Nat.le_refl _ | (simp; done) | (simp; omega) | omega)) | (with_reducible apply Below.drew) | (with_reducible apply below_drewN') | (refine Below.trans ?_ (Below.mono (by assumption) (by first | exact Nat.le_refl _ | (simp; done) | (simp; omega) | omega))) | exact Below.refl _ _ | assumption)) ?_
                  clear hK K
                  refine wpW_branch [25] (by kernel_rfl) (by simp) ?_
                  intro w5 hg5 hS5
                  have hc5 := (bcell hg5).1
                  have hf5 := (bcell hg5).2
                  have hz5 := hg5.size
                  try simp at hz5
                  have hl1_5 : w1.heap.size ≤ w5.heap.size := by omega
                  try have hm1_5 : w1.heap.size < w5.heap.size := by omega
                  have hl2_5 : w2.heap.size ≤ w5.heap.size := by omega
                  try have hm2_5 : w2.heap.size < w5.heap.size := by omega
                  have hl3_5 : w3.heap.size ≤ w5.heap.size := by omega
                  try have hm3_5 : w3.heap.size < w5.heap.size := by omega
                  have hl4_5 : w4.heap.size ≤ w5.heap.size := by omega
                  try have hm4_5 : w4.heap.size < w5.heap.size := by omega
                  refine each_cons ?_ (each_nil)
                  · refine wpOp_go (by rfl) (Eq.refl _) (by go_simp; done) ?_
                    intro K hK
                    go_simp
                    try simp only [Act.put]
                    refine hK _ _ (by repeat (first | (with_reducible exact Below.refl _ _) | (with_reducible assumption) | ((with_reducible refine Below.setCell ?_ ?_ _); rotate_left; · (first | exact Nat.le_refl _ | (simp; done) | (simp; omega) | omega)) | ((with_reducible refine Below.alloc ?_ ?_ _); rotate_left; · (first | exact Nat.le_refl _ | (simp; done) | (simp; omega) | omega)) | (with_reducible apply Below.drew) | (with_reducible apply below_drewN') | (refine Below.trans ?_ (Below.mono (by assumption) (by first | exact Nat.le_refl _ | (simp; done) | (simp; omega) | omega))) | exact Below.refl _ _ | assumption)) ?_
                    clear hK K
                    refine wpW_branch [26] (by kernel_rfl) (by simp) ?_
                    intro w6 hg6 hS6
                    have hc6 := (bcell hg6).1
                    have hf6 := (bcell hg6).2
                    have hz6 := hg6.size
                    try simp at hz6
                    have hl1_6 : w1.heap.size ≤ w6.heap.size := by omega
                    try have hm1_6 : w1.heap.size < w6.heap.size := by omega
                    have hl2_6 : w2.heap.size ≤ w6.heap.size := by omega
                    try have hm2_6 : w2.heap.size < w6.heap.size := by omega
                    have hl3_6 : w3.heap.size ≤ w6.heap.size := by omega
                    try have hm3_6 : w3.heap.size < w6.heap.size := by omega
                    have hl4_6 : w4.heap.size ≤ w6.heap.size := by omega
                    try have hm4_6 : w4.heap.size < w6.heap.size := by omega
                    have hl5_6 : w5.heap.size ≤ w6.heap.size := by omega
                    try have hm5_6 : w5.heap.size < w6.heap.size := by omega
                    refine each_cons ?_ (each_nil)
                    · refine wpOp_go (by rfl) (Eq.refl _) (by go_simp; done) ?_
                      intro K hK
                      go_simp
                      try simp only [Act.put]
                      refine hK _ _ (by repeat (first | (with_reducible exact Below.refl _ _) | (with_reducible assumption) | ((with_reducible refine Below.setCell ?_ ?_ _); rotate_left; · (first | exact Nat.le_refl _ | (simp; done) | (simp; omega) | omega)) | ((with_reducible refine Below.alloc ?_ ?_ _); rotate_left; · (first | exact Nat.le_refl _ | (simp; done) | (simp; omega) | omega)) | (with_reducible apply Below.drew) | (with_reducible apply below_drewN') | (refine Below.trans ?_ (Below.mono (by assumption) (by first | exact Nat.le_refl _ | (simp; done) | (simp; omega) | omega))) | exact Below.refl _ _ | assumption)) ?_
                      clear hK K
                      refine wpW_end (by kernel_rfl) ?_
                      intro w7 hg7 hS7
                      have hc7 := (bcell hg7).1
                      have hf7 := (bcell hg7).2
                      have hz7 := hg7.size
                      try simp at hz7
                      have hl1_7 : w1.heap.size ≤ w7.heap.size := by omega
                      try have hm1_7 : w1.heap.size < w7.heap.size := by omega
                      have hl2_7 : w2.heap.size ≤ w7.heap.size := by omega
                      try have hm2_7 : w2.heap.size < w7.heap.size := by omega
                      have hl3_7 : w3.heap.size ≤ w7.heap.size := by omega
                      try have hm3_7 : w3.heap.size < w7.heap.size := by omega
                      have hl4_7 : w4.heap.size ≤ w7.heap.size := by omega
                      try have hm4_7 : w4.heap.size < w7.heap.size := by omega
                      have hl5_7 : w5.heap.size ≤ w7.heap.size := by omega
                      try have hm5_7 : w5.heap.size < w7.heap.size := by omega
                      have hl6_7 : w6.heap.size ≤ w7.heap.size := by omega
                      try have hm6_7 : w6.heap.size < w7.heap.size := by omega
                      unfold NQ
                      dsimp only
                      obtain ⟨g1, g2, g3, gd, gs⟩ := three_new hS1 hg2 hg3 hg4
                      go_wp2_with fail
                      go_meet
                      first
                        | exact ⟨_, _, _, rfl, rfl, rfl, three_set g1 g2 g3 gd.1 gd.2.1 gd.2.2 hg5 hg6 hg7, ⟨gs.1, gs.2.1, gs.2.2⟩, hS7⟩
                        | exact ⟨_, _, _, rfl, rfl, rfl, three_set g1 g3 g2 gd.2.1 gd.1 (Ne.symm gd.2.2) hg5 hg6 hg7, ⟨gs.1, gs.2.2, gs.2.1⟩, hS7⟩
                        | exact ⟨_, _, _, rfl, rfl, rfl, three_set g2 g1 g3 (Ne.symm gd.1) gd.2.2 gd.2.1 hg5 hg6 hg7, ⟨gs.2.1, gs.1, gs.2.2⟩, hS7⟩
                        | exact ⟨_, _, _, rfl, rfl, rfl, three_set g2 g3 g1 gd.2.2 (Ne.symm gd.1) (Ne.symm gd.2.1) hg5 hg6 hg7, ⟨gs.2.1, gs.2.2, gs.1⟩, hS7⟩
                        | exact ⟨_, _, _, rfl, rfl, rfl, three_set g3 g1 g2 (Ne.symm gd.2.1) (Ne.symm gd.2.2) gd.1 hg5 hg6 hg7, ⟨gs.2.2, gs.1, gs.2.1⟩, hS7⟩
                        | exact ⟨_, _, _, rfl, rfl, rfl, three_set g3 g2 g1 (Ne.symm gd.2.2) (Ne.symm gd.2.1) (Ne.symm gd.1) hg5 hg6 hg7, ⟨gs.2.2, gs.2.1, gs.1⟩, hS7⟩
          · refine wpOp_go (by rfl) (Eq.refl _) (by go_simp; done) ?_
            intro K hK
            go_simp
            try simp only [Act.put]
            refine hK _ _ (by repeat (first | (with_reducible exact Below.refl _ _) | (with_reducible assumption) | ((with_reducible refine Below.setCell ?_ ?_ _); rotate_left; · (first | exact Nat.le_refl _ | (simp; done) | (simp; omega) | omega)) | ((with_reducible refine Below.alloc ?_ ?_ _); rotate_left; · (first | exact Nat.le_refl _ | (simp; done) | (simp; omega) | omega)) | (with_reducible apply Below.drew) | (with_reducible apply below_drewN') | (refine Below.trans ?_ (Below.mono (by assumption) (by first | exact Nat.le_refl _ | (simp; done) | (simp; omega) | omega))) | exact Below.refl _ _ | assumption)) ?_
            clear hK K
            refine wpW_branch [21, 22] (by kernel_rfl) (by simp) ?_
            intro w2 hg2 hS2
            have hc2 := (bcell hg2).1
            have hf2 := (bcell hg2).2
            have hz2 := hg2.size
            try simp at hz2
            have hl1_2 : w1.heap.size ≤ w2.heap.size := by omega
            try have hm1_2 : w1.heap.size < w2.heap.size := by omega
            refine each_cons ?_ (each_cons ?_ (each_nil))
            · refine wpOp_go (by rfl) (Eq.refl _) (by go_simp; done) ?_
              intro K hK
              go_simp
              try simp only [Act.put]
              refine hK _ _ (by repeat (first | (with_reducible exact Below.refl _ _) | (with_reducible assumption) | ((with_reducible refine Below.setCell ?_ ?_ _); rotate_left; · (first | exact Nat.le_refl _ | (simp; done) | (simp; omega) | omega)) | ((with_reducible refine Below.alloc ?_ ?_ _); rotate_left; · (first | exact Nat.le_refl _ | (simp; done) | (simp; omega) | omega)) | (with_reducible apply Below.drew) | (with_reducible apply below_drewN') | (refine Below.trans ?_ (Below.mono (by assumption) (by first | exact Nat.le_refl _ | (simp; done) | (simp; omega) | omega))) | exact Below.refl _ _ | assumption)) ?_
              clear hK K
              refine wpW_branch [22] (by kernel_rfl) (by simp) ?_
              intro w3 hg3 hS3
              have hc3 := (bcell hg3).1
              have hf3 := (bcell hg3).2
              have hz3 := hg3.size
              try simp at hz3
              have hl1_3 : w1.heap.size ≤ w3.heap.size := by omega
              try have hm1_3 : w1.heap.size < w3.heap.size := by omega
              have hl2_3 : w2.heap.size ≤ w3.heap.size := by omega
              try have hm2_3 : w2.heap.size < w3.heap.size := by omega
              refine each_cons ?_ (each_nil)
              · refine wpOp_go (by rfl) (Eq.refl _) (by go_simp; done) ?_
                intro K hK
                go_simp
                try simp only [Act.put]
                refine hK _ _ (by repeat (first | (with_reducible exact Below.refl _ _) | (with_reducible assumption) | ((with_reducible refine Below.setCell ?_ ?_ _); rotate_left; · (first | exact Nat.le_refl _ | (simp; done) | (simp; omega) | omega)) | ((with_reducible refine Below.alloc ?_ ?_ _); rotate_left; · (first | exact Nat.le_refl _ | (simp; done) | (simp; omega) | omega)) | (with_reducible apply Below.drew) | (with_reducible apply below_drewN') | (refine Below.trans ?_ (Below.mono (by assumption) (by first | exact Nat.le_refl _ | (simp; done) | (simp; omega) | omega))) | exact Below.refl _ _ | assumption)) ?_
                clear hK K
                refine wpW_branch [24] (by kernel_rfl) (by simp) ?_
                intro w4 hg4 hS4
                have hc4 := (bcell hg4).1
                have hf4 := (bcell hg4).2
                have hz4 := hg4.size
                try simp at hz4
                have hl1_4 : w1.heap.size ≤ w4.heap.size := by omega
                try have hm1_4 : w1.heap.size < w4.heap.size := by omega
                have hl2_4 : w2.heap.size ≤ w4.heap.size := by omega
                try have hm2_4 : w2.heap.size < w4.heap.size := by omega
                have hl3_4 : w3.heap.size ≤ w4.heap.size := by omega
                try have hm3_4 : w3.heap.size < w4.heap.size := by omega
                refine each_cons ?_ (each_nil)
                · refine wpOp_go (by rfl) (Eq.refl _) (by go_simp; done) ?_
                  intro K hK
                  go_simp
                  try simp only [Act.put]
                  refine hK _ _ (by repeat (first | (with_reducible exact Below.refl _ _) | (with_reducible assumption) | ((with_reducible refine Below.setCell ?_ ?_ _); rotate_left; · (first | exact Nat.le_refl _ | (simp; done) | (simp; omega) | omega)) | ((with_reducible refine Below.alloc ?_ ?_ _); rotate_left; · (first | exact Nat.le_refl _ | (simp; done) | (simp; omega) | omega)) | (with_reducible apply Below.drew) | (with_reducible apply below_drewN') | (refine Below.trans ?_ (Below.mono (by assumption) (by first | exact Nat.le_refl _ | (simp; done) | (simp; omega) | omega))) | exact Below.refl _ _ | assumption)) ?_
                  clear hK K
                  refine wpW_branch [25] (by kernel_rfl) (by simp) ?_
                  intro w5 hg5 hS5
                  have hc5 := (bcell hg5).1
                  have hf5 := (bcell hg5).2
                  have hz5 := hg5.size
                  try simp at hz5
                  have hl1_5 : w1.heap.size ≤ w5.heap.size := by omega
                  try have hm1_5 : w1.heap.size < w5.heap.size := by omega
                  have hl2_5 : w2.heap.size ≤ w5.heap.size := by omega
                  try have hm2_5 : w2.heap.size < w5.heap.size := by omega
                  have hl3_5 : w3.heap.size ≤ w5.heap.size := by omega
                  try have hm3_5 : w3.heap.size < w5.heap.size := by omega
                  have hl4_5 : w4.heap.size ≤ w5.heap.size := by omega
                  try have hm4_5 : w4.heap.size < w5.heap.size := by omega
                  refine each_cons ?_ (each_nil)
                  · refine wpOp_go (by rfl) (Eq.refl _) (by go_simp; done) ?_
                    intro K hK
                    go_simp
                    try simp only [Act.put]
                    refine hK _ _ (by repeat (first | (with_reducible exact Below.refl _ _) | (with_reducible assumption) | ((with_reducible refine Below.setCell ?_ ?_ _); rotate_left; · (first | exact Nat.le_refl _ | (simp; done) | (simp; omega) | omega)) | ((with_reducible refine Below.alloc ?_ ?_ _); rotate_left; · (first | exact Nat.le_refl _ | (simp; done) | (simp; omega) | omega)) | (with_reducible apply Below.drew) | (with_reducible apply below_drewN') | (refine Below.trans ?_ (Below.mono (by assumption) (by first | exact Nat.le_refl _ | (simp; done) | (simp; omega) | omega))) | exact Below.refl _ _ | assumption)) ?_
                    clear hK K
                    refine wpW_branch [26] (by kernel_rfl) (by simp) ?_
                    intro w6 hg6 hS6
                    have hc6 := (bcell hg6).1
                    have hf6 := (bcell hg6).2
                    have hz6 := hg6.size
                    try simp at hz6
                    have hl1_6 : w1.heap.size ≤ w6.heap.size := by omega
                    try have hm1_6 : w1.heap.size < w6.heap.size := by omega
                    have hl2_6 : w2.heap.size ≤ w6.heap.size := by omega
                    try have hm2_6 : w2.heap.size < w6.heap.size := by omega
                    have hl3_6 : w3.heap.size ≤ w6.heap.size := by omega
                    try have hm3_6 : w3.heap.size < w6.heap.size := by omega
                    have hl4_6 : w4.heap.size ≤ w6.heap.size := by omega
                    try have hm4_6 : w4.heap.size < w6.heap.size := by omega
                    have hl5_6 : w5.heap.size ≤ w6.heap.size := by omega
                    try have hm5_6 : w5.heap.size < w6.heap.size := by omega
                    refine each_cons ?_ (each_nil)
                    · refine wpOp_go (by rfl) (Eq.refl _) (by go_simp; done) ?_
                      intro K hK
                      go_simp
                      try simp only [Act.put]
                      refine hK _ _ (by repeat (first | (with_reducible exact Below.refl _ _) | (with_reducible assumption) | ((with_reducible refine Below.setCell ?_ ?_ _); rotate_left; · (first | exact Nat.le_refl _ | (simp; done) | (simp; omega) | omega)) | ((with_reducible refine Below.alloc ?_ ?_ _); rotate_left; · (first | exact Nat.le_refl _ | (simp; done) | (simp; omega) | omega)) | (with_reducible apply Below.drew) | (with_reducible apply below_drewN') | (refine Below.trans ?_ (Below.mono (by assumption) (by first | exact Nat.le_refl _ | (simp; done) | (simp; omega) | omega))) | exact Below.refl _ _ | assumption)) ?_
                      clear hK K
                      refine wpW_end (by kernel_rfl) ?_
                      intro w7 hg7 hS7
                      have hc7 := (bcell hg7).1
                      have hf7 := (bcell hg7).2
                      have hz7 := hg7.size
                      try simp at hz7
                      have hl1_7 : w1.heap.size ≤ w7.heap.size := by omega
                      try have hm1_7 : w1.heap.size < w7.heap.size := by omega
                      have hl2_7 : w2.heap.size ≤ w7.heap.size := by omega
                      try have hm2_7 : w2.heap.size < w7.heap.size := by omega
                      have hl3_7 : w3.heap.size ≤ w7.heap.size := by omega
                      try have hm3_7 : w3.heap.size < w7.heap.size := by omega
                      have hl4_7 : w4.heap.size ≤ w7.heap.size := by omega
                      try have hm4_7 : w4.heap.size < w7.heap.size := by omega
                      have hl5_7 : w5.heap.size ≤ w7.heap.size := by omega
                      try have hm5_7 : w5.heap.size < w7.heap.size := by omega
                      have hl6_7 : w6.heap.size ≤ w7.heap.size := by omega
                      try have hm6_7 : w6.heap.size < w7.heap.size := by omega
                      unfold NQ
                      dsimp only
                      obtain ⟨g1, g2, g3, gd, gs⟩ := three_new hS1 hg2 hg3 hg4
                      go_wp2_with fail
                      go_meet
                      first
                        | exact ⟨_, _, _, rfl, rfl, rfl, three_set g1 g2 g3 gd.1 gd.2.1 gd.2.2 hg5 hg6 hg7, ⟨gs.1, gs.2.1, gs.2.2⟩, hS7⟩
                        | exact ⟨_, _, _, rfl, rfl, rfl, three_set g1 g3 g2 gd.2.1 gd.1 (Ne.symm gd.2.2) hg5 hg6 hg7, ⟨gs.1, gs.2.2, gs.2.1⟩, hS7⟩
                        | exact ⟨_, _, _, rfl, rfl, rfl, three_set g2 g1 g3 (Ne.symm gd.1) gd.2.2 gd.2.1 hg5 hg6 hg7, ⟨gs.2.1, gs.1, gs.2.2⟩, hS7⟩
                        | exact ⟨_, _, _, rfl, rfl, rfl, three_set g2 g3 g1 gd.2.2 (Ne.symm gd.1) (Ne.symm gd.2.1) hg5 hg6 hg7, ⟨gs.2.1, gs.2.2, gs.1⟩, hS7⟩
                        | exact ⟨_, _, _, rfl, rfl, rfl, three_set g3 g1 g2 (Ne.symm gd.2.1) (Ne.symm gd.2.2) gd.1 hg5 hg6 hg7, ⟨gs.2.2, gs.1, gs.2.1⟩, hS7⟩
                        | exact ⟨_, _, _, rfl, rfl, rfl, three_set g3 g2 g1 (Ne.symm gd.2.2) (Ne.symm gd.2.1) (Ne.symm gd.1) hg5 hg6 hg7, ⟨gs.2.2, gs.2.1, gs.1⟩, hS7⟩
            · refine wpOp_go (by rfl) (Eq.refl _) (by go_simp; done) ?_
              intro K hK
              go_simp
              try simp only [Act.put]
              refine hK _ _ (by repeat (first | (with_reducible exact Below.refl _ _) | (with_reducible assumption) | ((with_reducible refine Below.setCell ?_ ?_ _); rotate_left; · (first | exact Nat.le_refl _ | (simp; done) | (simp; omega) | omega)) | ((with_reducible refine Below.alloc ?_ ?_ _); rotate_left; · (first | exact Nat.le_refl _ | (simp; done) | (simp; omega) | omega)) | (with_reducible apply Below.drew) | (with_reducible apply below_drewN') | (refine Below.trans ?_ (Below.mono (by assumption) (by first | exact Nat.le_refl _ | (simp; done) | (simp; omega) | omega))) | exact Below.refl _ _ | assumption)) ?_
              clear hK K
              refine wpW_branch [21] (by kernel_rfl) (by simp) ?_
              intro w3 hg3 hS3
              have hc3 := (bcell hg3).1
              have hf3 := (bcell hg3).2
              have hz3 := hg3.size
              try simp at hz3
              have hl1_3 : w1.heap.size ≤ w3.heap.size := by omega
              try have hm1_3 : w1.heap.size < w3.heap.size := by omega
              have hl2_3 : w2.heap.size ≤ w3.heap.size := by omega
              try have hm2_3 : w2.heap.size < w3.heap.size := by omega
              refine each_cons ?_ (each_nil)
              · refine wpOp_go (by rfl) (Eq.refl _) (by go_simp; done) ?_
                intro K hK
                go_simp
                try simp only [Act.put]
                refine hK _ _ (by repeat (first | (with_reducible exact Below.refl _ _) | (with_reducible assumption) | ((with_reducible refine Below.setCell ?_ ?_ _); rotate_left; · (first | exact Nat.le_refl _ | (simp; done) | (simp; omega) | omega)) | ((with_reducible refine Below.alloc ?_ ?_ _); rotate_left; · (first | exact Nat.le_refl _ | (simp; done) | (simp; omega) | omega)) | (with_reducible apply Below.drew) | (with_reducible apply below_drewN') | (refine Below.trans ?_ (Below.mono (by assumption) (by first | exact Nat.le_refl _ | (simp; done) | (simp; omega) | omega))) | exact Below.refl _ _ | assumption)) ?_
                clear hK K
                refine wpW_branch [24] (by kernel_rfl) (by simp) ?_
                intro w4 hg4 hS4
                have hc4 := (bcell hg4).1
                have hf4 := (bcell hg4).2
                have hz4 := hg4.size
                try simp at hz4
                have hl1_4 : w1.heap.size ≤ w4.heap.size := by omega
                try have hm1_4 : w1.heap.size < w4.heap.size := by omega
                have hl2_4 : w2.heap.size ≤ w4.heap.size := by omega
                try have hm2_4 : w2.heap.size < w4.heap.size := by omega
                have hl3_4 : w3.heap.size ≤ w4.heap.size := by omega
                try have hm3_4 : w3.heap.size < w4.heap.size := by omega
                refine each_cons ?_ (each_nil)
                · refine wpOp_go (by rfl) (Eq.refl _) (by go_simp; done) ?_
                  intro K hK
                  go_simp
                  try simp only [Act.put]
                  refine hK _ _ (by repeat (first | (with_reducible exact Below.refl _ _) | (with_reducible assumption) | ((with_reducible refine Below.setCell ?_ ?_ _); rotate_left; · (first | exact Nat.le_refl _ | (simp; done) | (simp; omega) | omega)) | ((with_reducible refine Below.alloc ?_ ?_ _); rotate_left; · (first | exact Nat.le_refl _ | (simp; done) | (simp; omega) | omega)) | (with_reducible apply Below.drew) | (with_reducible apply below_drewN') | (refine Below.trans ?_ (Below.mono (by assumption) (by first | exact Nat.le_refl _ | (simp; done) | (simp; omega) | omega))) | exact Below.refl _ _ | assumption)) ?_
                  clear hK K
                  refine wpW_branch [25] (by kernel_rfl) (by simp) ?_
                  intro w5 hg5 hS5
                  have hc5 := (bcell hg5).1
                  have hf5 := (bcell hg5).2
                  have hz5 := hg5.size
                  try simp at hz5
                  have hl1_5 : w1.heap.size ≤ w5.heap.size := by omega
                  try have hm1_5 : w1.heap.size < w5.heap.size := by omega
                  have hl2_5 : w2.heap.size ≤ w5.heap.size := by omega
                  try have hm2_5 : w2.heap.size < w5.heap.size := by omega
                  have hl3_5 : w3.heap.size ≤ w5.heap.size := by omega
                  try have hm3_5 : w3.heap.size < w5.heap.size := by omega
                  have hl4_5 : w4.heap.size ≤ w5.heap.size := by omega
                  try have hm4_5 : w4.heap.size < w5.heap.size := by omega
                  refine each_cons ?_ (each_nil)
                  · refine wpOp_go (by rfl) (Eq.refl _) (by go_simp; done) ?_
                    intro K hK
                    go_simp
                    try simp only [Act.put]
                    refine hK _ _ (by repeat (first | (with_reducible exact Below.refl _ _) | (with_reducible assumption) | ((with_reducible refine Below.setCell ?_ ?_ _); rotate_left; · (first | exact Nat.le_refl _ | (simp; done) | (simp; omega) | omega)) | ((with_reducible refine Below.alloc ?_ ?_ _); rotate_left; · (first | exact Nat.le_refl _ | (simp; done) | (simp; omega) | omega)) | (with_reducible apply Below.drew) | (with_reducible apply below_drewN') | (refine Below.trans ?_ (Below.mono (by assumption) (by first | exact Nat.le_refl _ | (simp; done) | (simp; omega) | omega))) | exact Below.refl _ _ | assumption)) ?_
                    clear hK K
                    refine wpW_branch [26] (by kernel_rfl) (by simp) ?_
                    intro w6 hg6 hS6
                    have hc6 := (bcell hg6).1
                    have hf6 := (bcell hg6).2
                    have hz6 := hg6.size
                    try simp at hz6
                    have hl1_6 : w1.heap.size ≤ w6.heap.size := by omega
                    try have hm1_6 : w1.heap.size < w6.heap.size := by omega
                    have hl2_6 : w2.heap.size ≤ w6.heap.size := by omega
                    try have hm2_6 : w2.heap.size < w6.heap.size := by omega
                    have hl3_6 : w3.heap.size ≤ w6.heap.size := by omega
                    try have hm3_6 : w3.heap.size < w6.heap.size := by omega
                    have hl4_6 : w4.heap.size ≤ w6.heap.size := by omega
                    try have hm4_6 : w4.heap.size < w6.heap.size := by omega
                    have hl5_6 : w5.heap.size ≤ w6.heap.size := by omega
                    try have hm5_6 : w5.heap.size < w6.heap.size := by omega
                    refine each_cons ?_ (each_nil)
                    · refine wpOp_go (by rfl) (Eq.refl _) (by go_simp; done) ?_
                      intro K hK
                      go_simp
                      try simp only [Act.put]
                      refine hK _ _ (by repeat (first | (with_reducible exact Below.refl _ _) | (with_reducible assumption) | ((with_reducible refine Below.setCell ?_ ?_ _); rotate_left; · (first | exact Nat.le_refl _ | (simp; done) | (simp; omega) | omega)) | ((with_reducible refine Below.alloc ?_ ?_ _); rotate_left; · (first | exact Nat.le_refl _ | (simp; done) | (simp; omega) | omega)) | (with_reducible apply Below.drew) | (with_reducible apply below_drewN') | (refine Below.trans ?_ (Below.mono (by assumption) (by first | exact Nat.le_refl _ | (simp; done) | (simp; omega) | omega))) | exact Below.refl _ _ | assumption)) ?_
                      clear hK K
                      refine wpW_end (by kernel_rfl) ?_
                      intro w7 hg7 hS7
                      have hc7 := (bcell hg7).1
                      have hf7 := (bcell hg7).2
                      have hz7 := hg7.size
                      try simp at hz7
                      have hl1_7 : w1.heap.size ≤ w7.heap.size := by omega
                      try have hm1_7 : w1.heap.size < w7.heap.size := by omega
                      have hl2_7 : w2.heap.size ≤ w7.heap.size := by omega
                      try have hm2_7 : w2.heap.size < w7.heap.size := by omega
                      have hl3_7 : w3.heap.size ≤ w7.heap.size := by omega
                      try have hm3_7 : w3.heap.size < w7.heap.size := by omega
                      have hl4_7 : w4.heap.size ≤ w7.heap.size := by omega
                      try have hm4_7 : w4.heap.size < w7.heap.size := by omega
                      have hl5_7 : w5.heap.size ≤ w7.heap.size := by omega
                      try have hm5_7 : w5.heap.size < w7.heap.size := by omega
                      have hl6_7 : w6.heap.size ≤ w7.heap.size := by omega
                      try have hm6_7 : w6.heap.size < w7.heap.size := by omega
                      unfold NQ
                      dsimp only
                      obtain ⟨g1, g2, g3, gd, gs⟩ := three_new hS1 hg2 hg3 hg4
                      go_wp2_with fail
                      go_meet
                      first
                        | exact ⟨_, _, _, rfl, rfl, rfl, three_set g1 g2 g3 gd.1 gd.2.1 gd.2.2 hg5 hg6 hg7, ⟨gs.1, gs.2.1, gs.2.2⟩, hS7⟩
                        | exact ⟨_, _, _, rfl, rfl, rfl, three_set g1 g3 g2 gd.2.1 gd.1 (Ne.symm gd.2.2) hg5 hg6 hg7, ⟨gs.1, gs.2.2, gs.2.1⟩, hS7⟩
                        | exact ⟨_, _, _, rfl, rfl, rfl, three_set g2 g1 g3 (Ne.symm gd.1) gd.2.2 gd.2.1 hg5 hg6 hg7, ⟨gs.2.1, gs.1, gs.2.2⟩, hS7⟩
                        | exact ⟨_, _, _, rfl, rfl, rfl, three_set g2 g3 g1 gd.2.2 (Ne.symm gd.1) (Ne.symm gd.2.1) hg5 hg6 hg7, ⟨gs.2.1, gs.2.2, gs.1⟩, hS7⟩
                        | exact ⟨_, _, _, rfl, rfl, rfl, three_set g3 g1 g2 (Ne.symm gd.2.1) (Ne.symm gd.2.2) gd.1 hg5 hg6 hg7, ⟨gs.2.2, gs.1, gs.2.1⟩, hS7⟩
                        | exact ⟨_, _, _, rfl, rfl, rfl, three_set g3 g2 g1 (Ne.symm gd.2.2) (Ne.symm gd.2.1) (Ne.symm gd.1) hg5 hg6 hg7, ⟨gs.2.2, gs.2.1, gs.1⟩, hS7⟩
        case rest =>
          obtain ⟨r, d, h, rfl, rfl, rfl, ⟨bR, bD, bh⟩, ⟨hr', hd', hh⟩, hBx⟩ := hcut
          have own1 := own_below own hBx
          have nh : some h ≠ v.ownBlock := own_ne own (.inr hh)
          have nd : some d ≠ v.ownBlock := own_ne own (.inr hd')
          have n7w : g7 ≠ w.heap.size := by omega
          have n7r : g7 ≠ w.heap.size + 1 := by omega
          have b71 := b7.below hBx lb7
          have bb1 := bb.below hBx lbb
          have br1 := br.below hBx lbr
          have hB1 := hBB.trans (hBx.mono hsB)
          have hs1 := Below.size hB1
          have l7 := b71.lt
          have lb := bb1.lt
          have lr' := br1.lt
          have lh := bh.lt
          have lR := bR.lt
          have lD := bD.lt
          clear e0 e1 e2 e3 ef c0 c1 c2 c3 c4 c5 c6 hBx own b7 bb br hBB hsB lbr lbb
          have n7h : g7 ≠ h := by omega
          have n7d : g7 ≠ d := by omega
          have hgh : g7 + 1 ≤ h ∨ h < g7 + 1 := by omega
          obtain ⟨e0, e1, e2, e3, ef⟩ := blk4 b71
          obtain ⟨c0, c1, c2, c3, c4, c5, c6⟩ := bv_cells bb1
          have x0 : wc.cell? ⟨h, 0, none⟩ = some (.int .i64 (sg * b.wide)) := bh.cell 0
          have x1 : wc.cell? ⟨h, 1, none⟩ = some (.int .i64 0) := bh.cell 1
          have y0 : wc.cell? ⟨r, 0, none⟩ = some (.int .i64 (sg * b.gap)) := bR.cell 0
          have y1 : wc.cell? ⟨r, 1, none⟩ = some (.int .i64 b.thick) := bR.cell 1
          have z0 : wc.cell? ⟨d, 0, none⟩ = some (.int .i64 (sg * b.gap)) := bD.cell 0
          have z1 : wc.cell? ⟨d, 1, none⟩ = some (.int .i64 (b.thick - b.land)) := bD.cell 1
          by_cases hl : 0 < b.land
          · by_cases hd0 : b.land < b.thick
            · have HG : Hid (fn = [(n1, ⟨sg * b.gap, b.thick, sg * b.gap, b.thick - b.land⟩), (n2, ⟨sg * b.gap, b.thick - b.land, sg * b.wide, 0⟩)]) := Lib.hid (by rw [HFS.out, if_pos hl, if_pos (by omega)]; rfl)
              go_wp2_with (at_builtin; refine wpList_append_own _ rfl _ _ 22 rfl (g7 + 1) 57 i0 (.agg #[.string ⟨#[]⟩, .int .i64 0, .int .i64 0, .int .i64 0, .int .i64 0]) 5 48 Tryz.underlying22 hi hz0 hz1 hz2 rfl (by decide) _ _ _ rfl (own1.alloc _) ⟨wc.heap.size, 0, none⟩ 1 1 [.string n1, .int .i64 (sg * b.gap), .int .i64 b.thick, .int .i64 (sg * b.gap), .int .i64 (b.thick - b.land)] rfl rfl ?c1A ?c2A ?c3A ?c4A ?c5A ?_)
              try
                case c1A =>
                  intro j u hu
                  rw [Addr.add_lit, Nat.zero_add, (Blk.new wc 57 #[.string n1, .int .i64 (sg * b.gap), .int .i64 b.thick, .int .i64 (sg * b.gap), .int .i64 (b.thick - b.land)]).cell j, List.getElem?_toArray]
                  exact hu
              try
                case c2A => simp [Value.oneCell']
              try
                case c3A => first | omega | (unfold maxLen; omega)
              try
                case c4A => omega
              try
                case c5A => first | omega | (simp; done) | (simp; omega)
              intro v5 w5 own5 hgrow _
              obtain ⟨A5, cp5, hv5, _, _⟩ := own_shape own5
              subst hv5
              have ownA := own1.alloc (.cells #[.string n1, .int .i64 (sg * b.gap), .int .i64 b.thick, .int .i64 (sg * b.gap), .int .i64 (b.thick - b.land)] 57 (0, 0))
              have hB5 : Below w.heap.size w w5 := below_own (hB1.alloc hs1 _) (by omega) ownA hgrow
              have b75 := (b71.alloc (.cells #[.string n1, .int .i64 (sg * b.gap), .int .i64 b.thick, .int .i64 (sg * b.gap), .int .i64 (b.thick - b.land)] 57 (0, 0))).grown hgrow (own_ne ownA (.inl (Nat.lt_succ_self _)))
              have bb5 := (bb1.alloc (.cells #[.string n1, .int .i64 (sg * b.gap), .int .i64 b.thick, .int .i64 (sg * b.gap), .int .i64 (b.thick - b.land)] 57 (0, 0))).grown hgrow (own_ne ownA (.inl (by omega)))
              have br5 := (br1.alloc (.cells #[.string n1, .int .i64 (sg * b.gap), .int .i64 b.thick, .int .i64 (sg * b.gap), .int .i64 (b.thick - b.land)] 57 (0, 0))).grown hgrow (own_ne ownA (.inl (by omega)))
              have lt7 := b75.lt
              obtain ⟨p0, p1, p2, p3, pf⟩ := blk4 b75
              have bh5 := (bh.alloc (.cells #[.string n1, .int .i64 (sg * b.gap), .int .i64 b.thick, .int .i64 (sg * b.gap), .int .i64 (b.thick - b.land)] 57 (0, 0))).grown hgrow nh
              have bD5 := (bD.alloc (.cells #[.string n1, .int .i64 (sg * b.gap), .int .i64 b.thick, .int .i64 (sg * b.gap), .int .i64 (b.thick - b.land)] 57 (0, 0))).grown hgrow nd
              obtain ⟨W6, hW6⟩ : ∃ W, w5.setCell ⟨g7, 3, none⟩ (.slice A5 (fs.length + 1) cp5) = W := ⟨_, rfl⟩
              have b76 := b75.set_ 3 (.slice A5 (fs.length + 1) cp5)
              have bb6 := bb5.far (p := ⟨g7, 3, none⟩) (Ne.symm n7w) (.slice A5 (fs.length + 1) cp5)
              have br6 := br5.far (p := ⟨g7, 3, none⟩) (Ne.symm n7r) (.slice A5 (fs.length + 1) cp5)
              have bh6 := bh5.far (p := ⟨g7, 3, none⟩) (Ne.symm n7h) (.slice A5 (fs.length + 1) cp5)
              have bD6 := bD5.far (p := ⟨g7, 3, none⟩) (Ne.symm n7d) (.slice A5 (fs.length + 1) cp5)
              have own6 := own_set own5 (p := ⟨g7, 3, none⟩) (Nat.lt_succ_self _) (.slice A5 (fs.length + 1) cp5)
              have hB6 := hB5.setCell (p := ⟨g7, 3, none⟩) (by simp; omega) (.slice A5 (fs.length + 1) cp5)
              clear e0 e1 e2 e3 ef c0 c1 c2 c3 c4 c5 c6 x0 x1 y0 y1 z0 z1 hgrow own1 ownA b71 bb1 br1 hB1 hs1 bh bR bD lh lR lD l7 lb lr' b75 bb5 br5 bh5 bD5 own5 hB5
              rw [hW6] at b76 bb6 br6 bh6 bD6 own6 hB6
              simp only [List.setIfInBounds_toArray, List.set_cons_succ, List.set_cons_zero] at b76
              go_upto_region 21 with fail
              try rw [hW6]
              clear hW6 p0 p1 p2 p3 pf lt7
              have hs6 := Below.size hB6
              have l7 := b76.lt
              have lb := bb6.lt
              have lr' := br6.lt
              have lh := bh6.lt
              have lD := bD6.lt
              obtain ⟨e0, e1, e2, e3, ef⟩ := blk4 b76
              obtain ⟨c0, c1, c2, c3, c4, c5, c6⟩ := bv_cells bb6
              have x0 : W6.cell? ⟨h, 0, none⟩ = some (.int .i64 (sg * b.wide)) := bh6.cell 0
              have x1 : W6.cell? ⟨h, 1, none⟩ = some (.int .i64 0) := bh6.cell 1
              have z0 : W6.cell? ⟨d, 0, none⟩ = some (.int .i64 (sg * b.gap)) := bD6.cell 0
              have z1 : W6.cell? ⟨d, 1, none⟩ = some (.int .i64 (b.thick - b.land)) := bD6.cell 1
              go_wp2_with (at_builtin; refine wpList_append_own _ rfl _ _ 22 rfl (g7 + 1) 57 i0 (.agg #[.string ⟨#[]⟩, .int .i64 0, .int .i64 0, .int .i64 0, .int .i64 0]) 5 48 Tryz.underlying22 hi hz0 hz1 hz2 rfl (by decide) _ _ _ rfl (own6.alloc _) ⟨W6.heap.size, 0, none⟩ 1 1 [.string n2, .int .i64 (sg * b.gap), .int .i64 (b.thick - b.land), .int .i64 (sg * b.wide), .int .i64 0] rfl rfl ?c1B ?c2B ?c3B ?c4B ?c5B ?_)
              try
                case c1B =>
                  intro j u hu
                  rw [Addr.add_lit, Nat.zero_add, (Blk.new W6 57 #[.string n2, .int .i64 (sg * b.gap), .int .i64 (b.thick - b.land), .int .i64 (sg * b.wide), .int .i64 0]).cell j, List.getElem?_toArray]
                  exact hu
              try
                case c2B => simp [Value.oneCell']
              try
                case c3B => first | omega | (unfold maxLen; omega)
              try
                case c4B => omega
              try
                case c5B => first | omega | (simp; done) | (simp; omega)
              intro v7 w7 own7 hgrow _
              obtain ⟨A7, cp7, hv7, _, _⟩ := own_shape own7
              subst hv7
              have ownA := own6.alloc (.cells #[.string n2, .int .i64 (sg * b.gap), .int .i64 (b.thick - b.land), .int .i64 (sg * b.wide), .int .i64 0] 57 (0, 0))
              have hB7 : Below w.heap.size w w7 := below_own (hB6.alloc hs6 _) (by omega) ownA hgrow
              have b77 := (b76.alloc (.cells #[.string n2, .int .i64 (sg * b.gap), .int .i64 (b.thick - b.land), .int .i64 (sg * b.wide), .int .i64 0] 57 (0, 0))).grown hgrow (own_ne ownA (.inl (Nat.lt_succ_self _)))
              have bb7 := (bb6.alloc (.cells #[.string n2, .int .i64 (sg * b.gap), .int .i64 (b.thick - b.land), .int .i64 (sg * b.wide), .int .i64 0] 57 (0, 0))).grown hgrow (own_ne ownA (.inl (by omega)))
              have br7 := (br6.alloc (.cells #[.string n2, .int .i64 (sg * b.gap), .int .i64 (b.thick - b.land), .int .i64 (sg * b.wide), .int .i64 0] 57 (0, 0))).grown hgrow (own_ne ownA (.inl (by omega)))
              have lt7 := b77.lt
              obtain ⟨p0, p1, p2, p3, pf⟩ := blk4 b77
              have hrow := own_set own7 (p := ⟨g7, 3, none⟩) (Nat.lt_succ_self _) (.slice A7 (fs.length + 1 + 1) cp7)
              go_wp2
              go_roundw
              case rel => exact ⟨m + 1, (.slice A7 (fs.length + 1 + 1) cp7), by omega, by go_num, b77.set_ 3 (.slice A7 (fs.length + 1 + 1) cp7), by rw [HF.out, HG.out, fcsC_append]; simpa [fcsC, List.append_assoc] using hrow, bb7.far (Ne.symm n7w) (.slice A7 (fs.length + 1 + 1) cp7), br7.far (Ne.symm n7r) (.slice A7 (fs.length + 1 + 1) cp7), hB7.setCell (by simp; omega) (.slice A7 (fs.length + 1 + 1) cp7)⟩
              case measure => simp [intOf]; omega
            · have HG : Hid (fn = [(n1, ⟨sg * b.gap, b.thick, sg * b.gap, b.thick - b.land⟩)]) := Lib.hid (by rw [HFS.out, if_pos hl, if_neg (by omega)]; rfl)
              go_wp2_with (at_builtin; refine wpList_append_own _ rfl _ _ 22 rfl (g7 + 1) 57 i0 (.agg #[.string ⟨#[]⟩, .int .i64 0, .int .i64 0, .int .i64 0, .int .i64 0]) 5 48 Tryz.underlying22 hi hz0 hz1 hz2 rfl (by decide) _ _ _ rfl (own1.alloc _) ⟨wc.heap.size, 0, none⟩ 1 1 [.string n1, .int .i64 (sg * b.gap), .int .i64 b.thick, .int .i64 (sg * b.gap), .int .i64 (b.thick - b.land)] rfl rfl ?c1C ?c2C ?c3C ?c4C ?c5C ?_)
              try
                case c1C =>
                  intro j u hu
                  rw [Addr.add_lit, Nat.zero_add, (Blk.new wc 57 #[.string n1, .int .i64 (sg * b.gap), .int .i64 b.thick, .int .i64 (sg * b.gap), .int .i64 (b.thick - b.land)]).cell j, List.getElem?_toArray]
                  exact hu
              try
                case c2C => simp [Value.oneCell']
              try
                case c3C => first | omega | (unfold maxLen; omega)
              try
                case c4C => omega
              try
                case c5C => first | omega | (simp; done) | (simp; omega)
              intro v5 w5 own5 hgrow _
              obtain ⟨A5, cp5, hv5, _, _⟩ := own_shape own5
              subst hv5
              have ownC := own1.alloc (.cells #[.string n1, .int .i64 (sg * b.gap), .int .i64 b.thick, .int .i64 (sg * b.gap), .int .i64 (b.thick - b.land)] 57 (0, 0))
              have hB5 : Below w.heap.size w w5 := below_own (hB1.alloc hs1 _) (by omega) ownC hgrow
              have b75 := (b71.alloc (.cells #[.string n1, .int .i64 (sg * b.gap), .int .i64 b.thick, .int .i64 (sg * b.gap), .int .i64 (b.thick - b.land)] 57 (0, 0))).grown hgrow (own_ne ownC (.inl (Nat.lt_succ_self _)))
              have bb5 := (bb1.alloc (.cells #[.string n1, .int .i64 (sg * b.gap), .int .i64 b.thick, .int .i64 (sg * b.gap), .int .i64 (b.thick - b.land)] 57 (0, 0))).grown hgrow (own_ne ownC (.inl (by omega)))
              have br5 := (br1.alloc (.cells #[.string n1, .int .i64 (sg * b.gap), .int .i64 b.thick, .int .i64 (sg * b.gap), .int .i64 (b.thick - b.land)] 57 (0, 0))).grown hgrow (own_ne ownC (.inl (by omega)))
              have lt7 := b75.lt
              obtain ⟨p0, p1, p2, p3, pf⟩ := blk4 b75
              obtain ⟨c0', c1', c2', c3', c4', c5', c6'⟩ := bv_cells bb5
              have lb5 := bb5.lt
              have n7w' := Ne.symm n7w
              have hrow := own_set own5 (p := ⟨g7, 3, none⟩) (Nat.lt_succ_self _) (.slice A5 (fs.length + 1) cp5)
              go_wp2
              go_roundw
              case rel => exact ⟨m + 1, (.slice A5 (fs.length + 1) cp5), by omega, by go_num, b75.set_ 3 (.slice A5 (fs.length + 1) cp5), by rw [HF.out, HG.out, fcsC_append]; simpa [fcsC, List.append_assoc] using hrow, bb5.far (Ne.symm n7w) (.slice A5 (fs.length + 1) cp5), br5.far (Ne.symm n7r) (.slice A5 (fs.length + 1) cp5), hB5.setCell (by simp; omega) (.slice A5 (fs.length + 1) cp5)⟩
              case measure => simp [intOf]; omega
          · have hd0 : b.land < b.thick := by omega
            have HG : Hid (fn = [(n2, ⟨sg * b.gap, b.thick - b.land, sg * b.wide, 0⟩)]) := Lib.hid (by rw [HFS.out, if_neg hl, if_pos (by omega)]; rfl)
            go_wp2_with (at_builtin; refine wpList_append_own _ rfl _ _ 22 rfl (g7 + 1) 57 i0 (.agg #[.string ⟨#[]⟩, .int .i64 0, .int .i64 0, .int .i64 0, .int .i64 0]) 5 48 Tryz.underlying22 hi hz0 hz1 hz2 rfl (by decide) _ _ _ rfl (own1.alloc _) ⟨wc.heap.size, 0, none⟩ 1 1 [.string n2, .int .i64 (sg * b.gap), .int .i64 (b.thick - b.land), .int .i64 (sg * b.wide), .int .i64 0] rfl rfl ?c1D ?c2D ?c3D ?c4D ?c5D ?_)
            try
              case c1D =>
                intro j u hu
                rw [Addr.add_lit, Nat.zero_add, (Blk.new wc 57 #[.string n2, .int .i64 (sg * b.gap), .int .i64 (b.thick - b.land), .int .i64 (sg * b.wide), .int .i64 0]).cell j, List.getElem?_toArray]
                exact hu
            try
              case c2D => simp [Value.oneCell']
            try
              case c3D => first | omega | (unfold maxLen; omega)
            try
              case c4D => omega
            try
              case c5D => first | omega | (simp; done) | (simp; omega)
            intro v5 w5 own5 hgrow _
            obtain ⟨A5, cp5, hv5, _, _⟩ := own_shape own5
            subst hv5
            have ownA := own1.alloc (.cells #[.string n2, .int .i64 (sg * b.gap), .int .i64 (b.thick - b.land), .int .i64 (sg * b.wide), .int .i64 0] 57 (0, 0))
            have hB5 : Below w.heap.size w w5 := below_own (hB1.alloc hs1 _) (by omega) ownA hgrow
            have b75 := (b71.alloc (.cells #[.string n2, .int .i64 (sg * b.gap), .int .i64 (b.thick - b.land), .int .i64 (sg * b.wide), .int .i64 0] 57 (0, 0))).grown hgrow (own_ne ownA (.inl (Nat.lt_succ_self _)))
            have bb5 := (bb1.alloc (.cells #[.string n2, .int .i64 (sg * b.gap), .int .i64 (b.thick - b.land), .int .i64 (sg * b.wide), .int .i64 0] 57 (0, 0))).grown hgrow (own_ne ownA (.inl (by omega)))
            have br5 := (br1.alloc (.cells #[.string n2, .int .i64 (sg * b.gap), .int .i64 (b.thick - b.land), .int .i64 (sg * b.wide), .int .i64 0] 57 (0, 0))).grown hgrow (own_ne ownA (.inl (by omega)))
            have lt7 := b75.lt
            obtain ⟨p0, p1, p2, p3, pf⟩ := blk4 b75
            have hrow := own_set own5 (p := ⟨g7, 3, none⟩) (Nat.lt_succ_self _) (.slice A5 (fs.length + 1) cp5)
            go_wp2
            go_roundw
            case rel => exact ⟨m + 1, (.slice A5 (fs.length + 1) cp5), by omega, by go_num, b75.set_ 3 (.slice A5 (fs.length + 1) cp5), by rw [HF.out, HG.out, fcsC_append]; simpa [fcsC, List.append_assoc] using hrow, bb5.far (Ne.symm n7w) (.slice A5 (fs.length + 1) cp5), br5.far (Ne.symm n7r) (.slice A5 (fs.length + 1) cp5), hB5.setCell (by simp; omega) (.slice A5 (fs.length + 1) cp5)⟩
            case measure => simp [intOf]; omega
      · obtain rfl : m = 2 := by omega
        obtain ⟨A5, cp5, hv5, _, _⟩ := own_shape own
        subst hv5
        have e6 := Blk.set4 br (.string nm) (.int .i64 b.thick) (.int .i64 b.zone) (.slice A5 (bvH b 2).length cp5)
        obtain ⟨d0, d1, d2, d3, df⟩ := blk4 br
        obtain ⟨z0, z1, z2, z3, _⟩ := blk4 e6
        have hrow := ((own_set (own_set (own_set (own_set own (p := ⟨w.heap.size + 1, 0, none⟩) (by simp; omega) (.string nm)) (p := ⟨w.heap.size + 1, 1, none⟩) (by simp; omega) (.int .i64 b.thick)) (p := ⟨w.heap.size + 1, 2, none⟩) (by simp; omega) (.int .i64 b.zone)) (p := ⟨w.heap.size + 1, 3, none⟩) (by simp; omega) (.slice A5 (bvH b 2).length cp5)).mono (base' := w.heap.size) (by omega))
        go_wp2
        refine bodyPost_ret (v := .tuple #[.agg #[.string nm, .int .i64 b.thick,   .int .i64 b.zone, (.slice A5 (bvH b 2).length cp5)], .int .i64 0]) ?_ rfl ⟨⟨fun h => absurd HE0.out h, fun _ => ⟨.slice A5 (bvH b 2).length cp5, rfl, hrow⟩⟩, Below.set4 hBB (by omega)⟩
        simp [results, Tryz.results17, go_sem, z0, z1, z2, z3]
end Go.Proofs.YtfbnpfhnffahdaaGreatDoor

