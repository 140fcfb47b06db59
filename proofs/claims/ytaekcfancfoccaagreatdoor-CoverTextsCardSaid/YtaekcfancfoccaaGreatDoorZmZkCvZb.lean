/- Contract: Bevelled, where the ask is right and the tangent too: the joint, or the error of one that is too wide. -/
import Derived.Test.YtaekcfancfoccaaGreatDoorZmZkCvZ
import Derived.Test.YtaekcfancfoccaaGreatDoorZmZkCvU
namespace Go.Proofs.YtaekcfancfoccaaGreatDoor
open Go.RowKit

theorem infoFace : (Tryz.prog.info? 83).map (fun i => (i.zero, i.size, i.bytes)) = some (some (.agg #[.string ⟨#[]⟩, .int .i64 0, .int .i64 0, .int .i64 0, .int .i64 0]), 5, 48) := by kernel_rfl
theorem own_set {w : World} {base e size n : Nat} {v : Value} {xs : List Value} (h : w.ownsRow base e size v n xs) {p : Addr} (hp : p.block < base) (u : Value) : (w.setCell p u).ownsRow base e size v n xs :=
  h.kept (only_setCell (World.grownBy.refl w (some p.block)) (.inl rfl) u) (.inr (Ne.symm (own_ne h (.inl hp))))

def bvH (b : Bv) (m : Nat) : List (ByteArray × Fc) := if m = 0 then [] else if m = 1 then bvF b ⟨#[108]⟩ (-1) else bvF b ⟨#[108]⟩ (-1) ++ bvF b ⟨#[114]⟩ 1
theorem bvF_length (b : Bv) (sd : ByteArray) (sg : Int) : (bvF b sd sg).length ≤ 2 := by
  unfold bvF; split <;> split <;> simp
theorem bvH_length (b : Bv) (m : Nat) : (bvH b m).length ≤ 4 := by
  have h1 := bvF_length b ⟨#[108]⟩ (-1); have h2 := bvF_length b ⟨#[114]⟩ 1
  unfold bvH; split
  · simp
  · split
    · omega
    · rw [List.length_append]; omega
theorem fcsC_append (l m : List (ByteArray × Fc)) : fcsC (l ++ m) = fcsC l ++ fcsC m := by simp [fcsC, List.flatMap_append]

set_option maxRecDepth 100000 in
set_option maxHeartbeats 4000000 in
theorem bev_fit (nm : ByteArray) (b : Bv) (w : World) (hs : nm.size ≤ 1000000000000) (hw : b.wf) (h1 : nameB nm = true) (t1 : wi b.thick 1 20000 = true) (t2 : wi b.zone 0 20000 = true) (t3 : wi b.gap 0 20000 = true) (t4 : wi b.land 0 b.thick = true) (h5 : tanE b.tn b.td = 0) :
    Calls Tryz.prog 26 #[.agg (bvC nm b)] w fun e w' => BevR nm b w.heap.size e w' ∧ Below w.heap.size w w' := by
  have H1 := Lib.hid h1; clear h1
  have HE : Hid (bvE nm b = if 20000 < b.wide then 8 else 0) := by unfold bvE bvB; rw [H1.out, t1, t2, t3, t4, h5]; rfl
  obtain ⟨i0, hi, hz0, hz1, hz2⟩ := info_parts infoFace
  unfold bvC
  have h5' : (tanE b.tn b.td != 0) = false := by simpa using h5
  obtain ⟨y1, y2, y3, y4⟩ := tanE_zero h5
  clear h5
  have T1 := t1; have T2 := t2; have T3 := t3; have T4 := t4
  simp only [wi, Bool.and_eq_true, decide_eq_true_eq] at T1 T2 T3 T4
  have m1 := mul_bd (b.thick - b.land) b.tn 20000 100 (by omega) (by omega)
  have m2 : 0 ≤ (b.thick - b.land) * b.tn := Int.mul_nonneg (by omega) (by omega)
  have m3 : ((b.thick - b.land) * b.tn).tdiv b.td = (b.thick - b.land) * b.tn / b.td := Int.tdiv_eq_ediv_of_nonneg m2
  have m4 : 0 ≤ (b.thick - b.land) * b.tn / b.td := Int.ediv_nonneg m2 (by omega)
  have m5 : (b.thick - b.land) * b.tn / b.td ≤ 2000000 := Int.le_trans (Int.ediv_le_self _ m2) (by omega)
  have m7 : (b.td == 0) = false := by simp; omega
  have m7b : ¬ b.td = 0 := by omega
  have m7c : b.td ≠ 0 := by omega
  have m9 : b.thick - b.land = 0 → b.gap + (b.thick - b.land) * b.tn / b.td ≤ 20000 := fun h => by rw [h]; simp; omega
  go_enter Tryz.func26, Tryz.ntmps26
  go_wp2_with (first | (go_at_call 56; refine (isName_any _ _ hs).mono ?_; rw [H1.out]; rintro e w1 ⟨rfl, hB1⟩; obtain ⟨hc1, hf1⟩ := bcell hB1; have hz1 := hB1.size; (try simp at hz1)) | (go_at_call 58; refine (within_any _ _ _ _).mono ?_; rintro e w1 ⟨rfl, rfl⟩) | fail)
  refine (tangentErr_any b.tn b.td hw.tn hw.td _).mono ?_
  rintro e w2 ⟨rfl, hB2⟩
  have bb : Blk w1 w.heap.size 75 (bvC nm b) := by refine Blk.below ?_ hB1 (by first | (simp; done) | (simp; omega)); exact (by repeat (first | assumption | apply Blk.drew | (refine Blk.new' _ _ _ ?_; first | rfl | (simp; done) | (simp; omega)) | (refine Blk.alloc ?_ _)))
  have br : Blk w1 (w.heap.size + 1) 24 #[.string ⟨#[]⟩, .int .i64 0, .int .i64 0, .slice none 0 0] := by refine Blk.below ?_ hB1 (by first | (simp; done) | (simp; omega)); exact (by repeat (first | assumption | apply Blk.drew | (refine Blk.new' _ _ _ ?_; first | rfl | (simp; done) | (simp; omega)) | (refine Blk.alloc ?_ _)))
  have hBB : Below w.heap.size w w1 := (by repeat first | (with_reducible first | exact Below.refl _ _ | assumption) | ((with_reducible first | refine Below.setCell ?_ ?_ _ | refine Below.alloc ?_ ?_ _); rotate_left; · first | exact Nat.le_refl _ | (simp; done) | (simp; omega) | omega) | (with_reducible first | apply Below.drew | apply below_drewN') | refine Below.trans ?_ (Below.mono (by assumption) (by first | exact Nat.le_refl _ | (simp; done) | (simp; omega) | omega)) | exact Below.refl _ _ | assumption)
  have lr := br.lt
  have br2 := br.below hB2 lr
  have bb2 := bb.below hB2 bb.lt
  have lr2 := br2.lt
  have hBC := hBB.trans (hB2.mono hBB.size)
  clear hB1 hc1 hf1 hz1 hB2 bb br lr
  obtain ⟨c0, c1, c2, c3, c4, c5, c6⟩ := bv_cells bb2
  have lb2 := bb2.lt
  go_wp2_with fail
  refine wp_region_b 13 (by kernel_rfl) (by kernel_rfl) ?_; simp only [List.take, List.drop]
  repeat (first
    | (apply StepsD.run
       · go_simp
         done
       · intro w' hS K hK
         have hc := (bcell hS).1; have hf := (bcell hS).2; have hz := hS.size; (try simp at hz); go_simp; (try go_bits)
         first
           | exact hK _ hS
           | exact hK _ (by repeat first | (with_reducible first | exact Below.refl _ _ | assumption) | ((with_reducible first | refine Below.setCell ?_ ?_ _ | refine Below.alloc ?_ ?_ _); rotate_left; · first | exact Nat.le_refl _ | (simp; done) | (simp; omega) | omega) | (with_reducible first | apply Below.drew | apply below_drewN') | refine Below.trans ?_ (Below.mono (by assumption) (by first | exact Nat.le_refl _ | (simp; done) | (simp; omega) | omega)) | exact Below.refl _ _ | assumption)
       · simp [Act.put]
         done)
    | (apply StepsD.pass
       · first | (go_simp; done) | rfl
       · simp only [Act.put, List.setIfInBounds_toArray, List.set_cons_succ, List.set_cons_zero]
         rfl))
  refine StepsD.done ?_
  intro w3 hS
  have bb3 := bb2.below hS lb2
  have br3 := br2.below hS lr2
  have lb3 := bb3.lt
  have lr3 := br3.lt
  have hBD := hBC.trans (hS.mono hBC.size)
  have hsD := Below.size hBD
  clear hS hBC bb2 br2 lb2 lr2 c0 c1 c2 c3 c4 c5 c6
  go_upto_region 10 with fail
  go_cut [6, 73] (fun s6 s73 wx => s6 = .int .i64 b.wide ∧ s73 = .bool (decide (20000 < b.wide)) ∧ wx = w3)
  case first =>
    by_cases hd : 0 < b.thick - b.land
    · go_wp2
      go_meet
      exact ⟨rfl, rfl, rfl⟩
    · have m11 : Hid (¬ 20000 < b.wide) := Lib.hid (by have := m9 (by omega); unfold Bv.wide Bv.depth; omega)
      go_wp2
      go_meet
      exact ⟨rfl, by simp [m11.out], rfl⟩
  case rest =>
    obtain ⟨rfl, rfl, rfl⟩ := hcut
    have hwd : 0 ≤ b.wide ∧ b.wide ≤ 2020000 := by unfold Bv.wide Bv.depth; omega
    by_cases hq : 20000 < b.wide
    · have HE2 : Hid (bvE nm b = 8) := Lib.hid (by rw [HE.out, if_pos hq])
      have e6 := Blk.set4 br3 (.string ⟨#[]⟩) (.int .i64 0) (.int .i64 0) (.slice none 0 0)
      obtain ⟨d0, d1, d2, d3, df⟩ := blk4 br3
      obtain ⟨z0, z1, z2, z3, _⟩ := blk4 e6
      go_wp2
      refine bodyPost_ret (v := .tuple #[noJo, .int .i64 8]) ?_ rfl ⟨⟨fun _ => by rw [HE2.out], fun h => absurd (HE2.out.symm.trans h) (by omega)⟩, Below.set4 hBD (by omega)⟩
      simp [results, Tryz.results26, go_sem, z0, z1, z2, z3, noJo]
    · have HE0 : Hid (bvE nm b = 0) := Lib.hid (by rw [HE.out, if_neg hq])
      have hwd2 : 0 ≤ b.wide ∧ b.wide ≤ 20000 := by omega
      obtain ⟨c0, c1, c2, c3, c4, c5, c6⟩ := bv_cells bb3
      clear m1 m2 m3 m4 m5 m9 HE
      go_wp2_with fail
      generalize hg7 : wc.heap.size = g7 at *
      have b7 : Blk (wc.alloc (.cells #[.string nm, .int .i64 b.thick, .int .i64 b.zone, .slice none 0 0] 24)) g7 24 #[.string nm, .int .i64 b.thick, .int .i64 b.zone, .slice none 0 0] := Blk.new' _ _ _ hg7.symm
      go_loopw [85] (fun i wr => ∃ (m : Nat) (v : Value), m ≤ 2 ∧ i = .int .i64 m ∧ Blk wr g7 24 #[.string nm, .int .i64 b.thick, .int .i64 b.zone, v] ∧ wr.ownsRow (g7 + 1) 83 5 v (bvH b m).length (fcsC (bvH b m)) ∧ Blk wr w.heap.size 75 (bvC nm b) ∧ Blk wr (w.heap.size + 1) 24 #[.string ⟨#[]⟩, .int .i64 0, .int .i64 0, .slice none 0 0] ∧ Below w.heap.size w wr) (fun i _ => 2 - (intOf i).toNat)
      case atStart => exact ⟨0, .slice none 0 0, by omega, rfl, b7, ⟨rfl, .inl ⟨rfl, rfl⟩⟩, bb3.alloc _, br3.alloc _, hBD.alloc (by rw [hg7]; exact hsD) _⟩
      case round =>
        obtain ⟨m, v, hm, rfl, b7, own, bb, br, hBB⟩ := hrel
        have hsB := Below.size hBB
        have lb7 := b7.lt
        have lbb := bb.lt
        have lbr := br.lt
        obtain ⟨e0, e1, e2, e3, ef⟩ := blk4 b7
        obtain ⟨c0, c1, c2, c3, c4, c5, c6⟩ := bv_cells bb
        by_cases hlt : m < 2
        · obtain ⟨sd, sg, hix, hsd, hsg, HF⟩ : ∃ (sd : ByteArray) (sg : Int), (∀ W, (Instr.index 150 (.agg #[.string ⟨#[108]⟩, .int .i64 (-1), .string ⟨#[114]⟩, .int .i64 1]) (.int .i64 m)).run Tryz.prog W = .ok (.agg #[.string sd, .int .i64 sg]) W) ∧ sd.size = 1 ∧ (sg = 1 ∨ sg = -1) ∧ Hid (bvH b (m + 1) = bvH b m ++ bvF b sd sg) := by
            rcases (by omega : m = 0 ∨ m = 1) with rfl | rfl
            · exact ⟨⟨#[108]⟩, -1, fun _ => by kernel_rfl, rfl, .inr rfl, Lib.hid (by simp [bvH])⟩
            · exact ⟨⟨#[114]⟩, 1, fun _ => by kernel_rfl, rfl, .inl rfl, Lib.hid (by simp [bvH])⟩
          have a1 : ∀ W, (Op.stringOp .add sd ⟨#[45, 108, 97, 110, 100]⟩).run Tryz.prog W = .ok (.string (sd ++ (⟨#[45, 108, 97, 110, 100]⟩ : ByteArray))) W := fun W => run_string_add_sum W _ _ (by rw [hsd]; decide)
          have a2 : ∀ W, (Op.stringOp .add sd ⟨#[45, 98, 101, 118, 101, 108]⟩).run Tryz.prog W = .ok (.string (sd ++ (⟨#[45, 98, 101, 118, 101, 108]⟩ : ByteArray))) W := fun W => run_string_add_sum W _ _ (by rw [hsd]; decide)
          have p1 : -20000 ≤ sg * b.gap ∧ sg * b.gap ≤ 20000 := by rcases hsg with rfl | rfl <;> omega
          have p2 : -20000 ≤ sg * b.wide ∧ sg * b.wide ≤ 20000 := by rcases hsg with rfl | rfl <;> omega
          have hln := bvH_length b m
          have HFS := Lib.hid (show bvF b sd sg = (if 0 < b.land then [(sd ++ (⟨#[45, 108, 97, 110, 100]⟩ : ByteArray), (⟨sg * b.gap, b.thick, sg * b.gap, b.thick - b.land⟩ : Fc))] else []) ++ (if 0 < b.thick - b.land then [(sd ++ (⟨#[45, 98, 101, 118, 101, 108]⟩ : ByteArray), (⟨sg * b.gap, b.thick - b.land, sg * b.wide, 0⟩ : Fc))] else []) from rfl)
          generalize sd ++ (⟨#[45, 108, 97, 110, 100]⟩ : ByteArray) = n1 at *
          generalize sd ++ (⟨#[45, 98, 101, 118, 101, 108]⟩ : ByteArray) = n2 at *
          generalize bvH b m = fs at *
          generalize bvF b sd sg = fn at *
          clear hsg HE0 hwd hwd2 hq
          go_upto_region 17 with fail
          go_cut [9, 10, 11] (fun s9 s10 s11 wx => ∃ h r d : Nat, s9 = .pointer (some ⟨h, 0, none⟩) ∧ s10 = .pointer (some ⟨r, 0, none⟩) ∧ s11 = .pointer (some ⟨d, 0, none⟩) ∧ Blk wx h 149 #[.string sd, .int .i64 sg] ∧ Blk wx r 81 #[.int .i64 (sg * b.gap), .int .i64 b.thick] ∧ Blk wx d 81 #[.int .i64 (sg * b.gap), .int .i64 (b.thick - b.land)] ∧ wr.heap.size ≤ h ∧ wr.heap.size ≤ d ∧ Below wr.heap.size wr wx)
          case first =>
            go_wp2
            go_meet
            exact ⟨_, _, _, rfl, rfl, rfl, ((Blk.new _ _ _).alloc _).alloc _, (Blk.new' _ _ _ (by simp)).alloc _, Blk.new' _ _ _ (by simp), Nat.le_refl _, by omega, (((Below.refl _ _).alloc (Nat.le_refl _) _).alloc (by simp) _).alloc (by simp; omega) _⟩
          case rest =>
            obtain ⟨h, r, d, rfl, rfl, rfl, bh, bR, bD, hh, hd', hBx⟩ := hcut
            have own1 := own_below own hBx
            have nh : some h ≠ v.ownBlock := own_ne own (.inr hh)
            have nd : some d ≠ v.ownBlock := own_ne own (.inr hd')
            have n7w : g7 ≠ w.heap.size := by omega
            have n7r : g7 ≠ w.heap.size + 1 := by omega
            have b71 := b7.below hBx lb7
            have bb1 := bb.below hBx lbb
            have br1 := br.below hBx lbr
            have hB1 := hBB.trans (hBx.mono hsB)
            have hs1 := Below.size hB1
            have l7 := b71.lt
            have lb := bb1.lt
            have lr' := br1.lt
            have lh := bh.lt
            have lR := bR.lt
            have lD := bD.lt
            clear e0 e1 e2 e3 ef c0 c1 c2 c3 c4 c5 c6 hBx own b7 bb br hBB hsB lbr lbb
            have n7h : g7 ≠ h := by omega
            have n7d : g7 ≠ d := by omega
            have hgh : g7 + 1 ≤ h ∨ h < g7 + 1 := by omega
            obtain ⟨e0, e1, e2, e3, ef⟩ := blk4 b71
            obtain ⟨c0, c1, c2, c3, c4, c5, c6⟩ := bv_cells bb1
            have x0 : wc.cell? ⟨h, 0, none⟩ = some (.string sd) := bh.cell 0
            have x1 : wc.cell? ⟨h, 1, none⟩ = some (.int .i64 sg) := bh.cell 1
            have y0 : wc.cell? ⟨r, 0, none⟩ = some (.int .i64 (sg * b.gap)) := bR.cell 0
            have y1 : wc.cell? ⟨r, 1, none⟩ = some (.int .i64 b.thick) := bR.cell 1
            have z0 : wc.cell? ⟨d, 0, none⟩ = some (.int .i64 (sg * b.gap)) := bD.cell 0
            have z1 : wc.cell? ⟨d, 1, none⟩ = some (.int .i64 (b.thick - b.land)) := bD.cell 1
            by_cases hl : 0 < b.land
            · by_cases hd : 0 < b.thick - b.land
              · have HG : Hid (fn = [(n1, ⟨sg * b.gap, b.thick, sg * b.gap, b.thick - b.land⟩), (n2, ⟨sg * b.gap, b.thick - b.land, sg * b.wide, 0⟩)]) := Lib.hid (by rw [HFS.out, if_pos hl, if_pos hd]; rfl)
                go_wp2_with (at_builtin; refine wpList_append_own _ rfl _ _ 22 rfl (g7 + 1) 83 i0 (.agg #[.string ⟨#[]⟩, .int .i64 0, .int .i64 0, .int .i64 0, .int .i64 0]) 5 48 Tryz.underlying22 hi hz0 hz1 hz2 rfl (by decide) _ _ _ rfl (own1.alloc _) ⟨wc.heap.size, 0, none⟩ 1 1 [.string n1, .int .i64 (sg * b.gap), .int .i64 b.thick, .int .i64 (sg * b.gap), .int .i64 (b.thick - b.land)] rfl rfl ?c1A ?c2A ?c3A ?c4A ?c5A ?_)
                try
                  case c1A =>
                    intro j u hu
                    rw [Addr.add_lit, Nat.zero_add, (Blk.new wc 83 #[.string n1, .int .i64 (sg * b.gap), .int .i64 b.thick, .int .i64 (sg * b.gap), .int .i64 (b.thick - b.land)]).cell j, List.getElem?_toArray]
                    exact hu
                try
                  case c2A => simp [Value.oneCell']
                try
                  case c3A => first | omega | (unfold maxLen; omega)
                try
                  case c4A => omega
                try
                  case c5A => first | omega | (simp; done) | (simp; omega)
                intro v5 w5 own5 hgrow _
                obtain ⟨A5, cp5, hv5, _, _⟩ := own_shape own5
                subst hv5
                have ownA := own1.alloc (.cells #[.string n1, .int .i64 (sg * b.gap), .int .i64 b.thick, .int .i64 (sg * b.gap), .int .i64 (b.thick - b.land)] 83 (0, 0))
                have hB5 : Below w.heap.size w w5 := below_own (hB1.alloc hs1 _) (by omega) ownA hgrow
                have b75 := (b71.alloc (.cells #[.string n1, .int .i64 (sg * b.gap), .int .i64 b.thick, .int .i64 (sg * b.gap), .int .i64 (b.thick - b.land)] 83 (0, 0))).grown hgrow (own_ne ownA (.inl (Nat.lt_succ_self _)))
                have bb5 := (bb1.alloc (.cells #[.string n1, .int .i64 (sg * b.gap), .int .i64 b.thick, .int .i64 (sg * b.gap), .int .i64 (b.thick - b.land)] 83 (0, 0))).grown hgrow (own_ne ownA (.inl (by omega)))
                have br5 := (br1.alloc (.cells #[.string n1, .int .i64 (sg * b.gap), .int .i64 b.thick, .int .i64 (sg * b.gap), .int .i64 (b.thick - b.land)] 83 (0, 0))).grown hgrow (own_ne ownA (.inl (by omega)))
                have lt7 := b75.lt
                obtain ⟨p0, p1, p2, p3, pf⟩ := blk4 b75
                have bh5 := (bh.alloc (.cells #[.string n1, .int .i64 (sg * b.gap), .int .i64 b.thick, .int .i64 (sg * b.gap), .int .i64 (b.thick - b.land)] 83 (0, 0))).grown hgrow nh
                have bD5 := (bD.alloc (.cells #[.string n1, .int .i64 (sg * b.gap), .int .i64 b.thick, .int .i64 (sg * b.gap), .int .i64 (b.thick - b.land)] 83 (0, 0))).grown hgrow nd
                obtain ⟨W6, hW6⟩ : ∃ W, w5.setCell ⟨g7, 3, none⟩ (.slice A5 (fs.length + 1) cp5) = W := ⟨_, rfl⟩
                have b76 := b75.set_ 3 (.slice A5 (fs.length + 1) cp5)
                have bb6 := bb5.far (p := ⟨g7, 3, none⟩) (Ne.symm n7w) (.slice A5 (fs.length + 1) cp5)
                have br6 := br5.far (p := ⟨g7, 3, none⟩) (Ne.symm n7r) (.slice A5 (fs.length + 1) cp5)
                have bh6 := bh5.far (p := ⟨g7, 3, none⟩) (Ne.symm n7h) (.slice A5 (fs.length + 1) cp5)
                have bD6 := bD5.far (p := ⟨g7, 3, none⟩) (Ne.symm n7d) (.slice A5 (fs.length + 1) cp5)
                have own6 := own_set own5 (p := ⟨g7, 3, none⟩) (Nat.lt_succ_self _) (.slice A5 (fs.length + 1) cp5)
                have hB6 := hB5.setCell (p := ⟨g7, 3, none⟩) (by simp; omega) (.slice A5 (fs.length + 1) cp5)
                clear e0 e1 e2 e3 ef c0 c1 c2 c3 c4 c5 c6 x0 x1 y0 y1 z0 z1 hgrow own1 ownA b71 bb1 br1 hB1 hs1 bh bR bD lh lR lD l7 lb lr' b75 bb5 br5 bh5 bD5 own5 hB5
                rw [hW6] at b76 bb6 br6 bh6 bD6 own6 hB6
                simp only [List.setIfInBounds_toArray, List.set_cons_succ, List.set_cons_zero] at b76
                go_upto_region 20 with fail
                try rw [hW6]
                clear hW6 p0 p1 p2 p3 pf lt7
                have hs6 := Below.size hB6
                have l7 := b76.lt
                have lb := bb6.lt
                have lr' := br6.lt
                have lh := bh6.lt
                have lD := bD6.lt
                obtain ⟨e0, e1, e2, e3, ef⟩ := blk4 b76
                obtain ⟨c0, c1, c2, c3, c4, c5, c6⟩ := bv_cells bb6
                have x0 : W6.cell? ⟨h, 0, none⟩ = some (.string sd) := bh6.cell 0
                have x1 : W6.cell? ⟨h, 1, none⟩ = some (.int .i64 sg) := bh6.cell 1
                have z0 : W6.cell? ⟨d, 0, none⟩ = some (.int .i64 (sg * b.gap)) := bD6.cell 0
                have z1 : W6.cell? ⟨d, 1, none⟩ = some (.int .i64 (b.thick - b.land)) := bD6.cell 1
                go_wp2_with (at_builtin; refine wpList_append_own _ rfl _ _ 22 rfl (g7 + 1) 83 i0 (.agg #[.string ⟨#[]⟩, .int .i64 0, .int .i64 0, .int .i64 0, .int .i64 0]) 5 48 Tryz.underlying22 hi hz0 hz1 hz2 rfl (by decide) _ _ _ rfl (own6.alloc _) ⟨W6.heap.size, 0, none⟩ 1 1 [.string n2, .int .i64 (sg * b.gap), .int .i64 (b.thick - b.land), .int .i64 (sg * b.wide), .int .i64 0] rfl rfl ?c1B ?c2B ?c3B ?c4B ?c5B ?_)
                try
                  case c1B =>
                    intro j u hu
                    rw [Addr.add_lit, Nat.zero_add, (Blk.new W6 83 #[.string n2, .int .i64 (sg * b.gap), .int .i64 (b.thick - b.land), .int .i64 (sg * b.wide), .int .i64 0]).cell j, List.getElem?_toArray]
                    exact hu
                try
                  case c2B => simp [Value.oneCell']
                try
                  case c3B => first | omega | (unfold maxLen; omega)
                try
                  case c4B => omega
                try
                  case c5B => first | omega | (simp; done) | (simp; omega)
                intro v7 w7 own7 hgrow _
                obtain ⟨A7, cp7, hv7, _, _⟩ := own_shape own7
                subst hv7
                have ownA := own6.alloc (.cells #[.string n2, .int .i64 (sg * b.gap), .int .i64 (b.thick - b.land), .int .i64 (sg * b.wide), .int .i64 0] 83 (0, 0))
                have hB7 : Below w.heap.size w w7 := below_own (hB6.alloc hs6 _) (by omega) ownA hgrow
                have b77 := (b76.alloc (.cells #[.string n2, .int .i64 (sg * b.gap), .int .i64 (b.thick - b.land), .int .i64 (sg * b.wide), .int .i64 0] 83 (0, 0))).grown hgrow (own_ne ownA (.inl (Nat.lt_succ_self _)))
                have bb7 := (bb6.alloc (.cells #[.string n2, .int .i64 (sg * b.gap), .int .i64 (b.thick - b.land), .int .i64 (sg * b.wide), .int .i64 0] 83 (0, 0))).grown hgrow (own_ne ownA (.inl (by omega)))
                have br7 := (br6.alloc (.cells #[.string n2, .int .i64 (sg * b.gap), .int .i64 (b.thick - b.land), .int .i64 (sg * b.wide), .int .i64 0] 83 (0, 0))).grown hgrow (own_ne ownA (.inl (by omega)))
                have lt7 := b77.lt
                obtain ⟨p0, p1, p2, p3, pf⟩ := blk4 b77
                have hrow := own_set own7 (p := ⟨g7, 3, none⟩) (Nat.lt_succ_self _) (.slice A7 (fs.length + 1 + 1) cp7)
                go_wp2
                go_roundw
                case rel => exact ⟨m + 1, (.slice A7 (fs.length + 1 + 1) cp7), by omega, by go_num, b77.set_ 3 (.slice A7 (fs.length + 1 + 1) cp7), by rw [HF.out, HG.out, fcsC_append]; simpa [fcsC, List.append_assoc] using hrow, bb7.far (Ne.symm n7w) (.slice A7 (fs.length + 1 + 1) cp7), br7.far (Ne.symm n7r) (.slice A7 (fs.length + 1 + 1) cp7), hB7.setCell (by simp; omega) (.slice A7 (fs.length + 1 + 1) cp7)⟩
                case measure => simp [intOf]; omega
              · have HG : Hid (fn = [(n1, ⟨sg * b.gap, b.thick, sg * b.gap, b.thick - b.land⟩)]) := Lib.hid (by rw [HFS.out, if_pos hl, if_neg hd]; rfl)
                go_wp2_with (at_builtin; refine wpList_append_own _ rfl _ _ 22 rfl (g7 + 1) 83 i0 (.agg #[.string ⟨#[]⟩, .int .i64 0, .int .i64 0, .int .i64 0, .int .i64 0]) 5 48 Tryz.underlying22 hi hz0 hz1 hz2 rfl (by decide) _ _ _ rfl (own1.alloc _) ⟨wc.heap.size, 0, none⟩ 1 1 [.string n1, .int .i64 (sg * b.gap), .int .i64 b.thick, .int .i64 (sg * b.gap), .int .i64 (b.thick - b.land)] rfl rfl ?c1C ?c2C ?c3C ?c4C ?c5C ?_)
                try
                  case c1C =>
                    intro j u hu
                    rw [Addr.add_lit, Nat.zero_add, (Blk.new wc 83 #[.string n1, .int .i64 (sg * b.gap), .int .i64 b.thick, .int .i64 (sg * b.gap), .int .i64 (b.thick - b.land)]).cell j, List.getElem?_toArray]
                    exact hu
                try
                  case c2C => simp [Value.oneCell']
                try
                  case c3C => first | omega | (unfold maxLen; omega)
                try
                  case c4C => omega
                try
                  case c5C => first | omega | (simp; done) | (simp; omega)
                intro v5 w5 own5 hgrow _
                obtain ⟨A5, cp5, hv5, _, _⟩ := own_shape own5
                subst hv5
                have ownC := own1.alloc (.cells #[.string n1, .int .i64 (sg * b.gap), .int .i64 b.thick, .int .i64 (sg * b.gap), .int .i64 (b.thick - b.land)] 83 (0, 0))
                have hB5 : Below w.heap.size w w5 := below_own (hB1.alloc hs1 _) (by omega) ownC hgrow
                have b75 := (b71.alloc (.cells #[.string n1, .int .i64 (sg * b.gap), .int .i64 b.thick, .int .i64 (sg * b.gap), .int .i64 (b.thick - b.land)] 83 (0, 0))).grown hgrow (own_ne ownC (.inl (Nat.lt_succ_self _)))
                have bb5 := (bb1.alloc (.cells #[.string n1, .int .i64 (sg * b.gap), .int .i64 b.thick, .int .i64 (sg * b.gap), .int .i64 (b.thick - b.land)] 83 (0, 0))).grown hgrow (own_ne ownC (.inl (by omega)))
                have br5 := (br1.alloc (.cells #[.string n1, .int .i64 (sg * b.gap), .int .i64 b.thick, .int .i64 (sg * b.gap), .int .i64 (b.thick - b.land)] 83 (0, 0))).grown hgrow (own_ne ownC (.inl (by omega)))
                have lt7 := b75.lt
                obtain ⟨p0, p1, p2, p3, pf⟩ := blk4 b75
                have hrow := own_set own5 (p := ⟨g7, 3, none⟩) (Nat.lt_succ_self _) (.slice A5 (fs.length + 1) cp5)
                go_wp2
                go_roundw
                case rel => exact ⟨m + 1, (.slice A5 (fs.length + 1) cp5), by omega, by go_num, b75.set_ 3 (.slice A5 (fs.length + 1) cp5), by rw [HF.out, HG.out, fcsC_append]; simpa [fcsC, List.append_assoc] using hrow, bb5.far (Ne.symm n7w) (.slice A5 (fs.length + 1) cp5), br5.far (Ne.symm n7r) (.slice A5 (fs.length + 1) cp5), hB5.setCell (by simp; omega) (.slice A5 (fs.length + 1) cp5)⟩
                case measure => simp [intOf]; omega
            · have hd : 0 < b.thick - b.land := by omega
              have HG : Hid (fn = [(n2, ⟨sg * b.gap, b.thick - b.land, sg * b.wide, 0⟩)]) := Lib.hid (by rw [HFS.out, if_neg hl, if_pos hd]; rfl)
              go_wp2_with (at_builtin; refine wpList_append_own _ rfl _ _ 22 rfl (g7 + 1) 83 i0 (.agg #[.string ⟨#[]⟩, .int .i64 0, .int .i64 0, .int .i64 0, .int .i64 0]) 5 48 Tryz.underlying22 hi hz0 hz1 hz2 rfl (by decide) _ _ _ rfl (own1.alloc _) ⟨wc.heap.size, 0, none⟩ 1 1 [.string n2, .int .i64 (sg * b.gap), .int .i64 (b.thick - b.land), .int .i64 (sg * b.wide), .int .i64 0] rfl rfl ?c1D ?c2D ?c3D ?c4D ?c5D ?_)
              try
                case c1D =>
                  intro j u hu
                  rw [Addr.add_lit, Nat.zero_add, (Blk.new wc 83 #[.string n2, .int .i64 (sg * b.gap), .int .i64 (b.thick - b.land), .int .i64 (sg * b.wide), .int .i64 0]).cell j, List.getElem?_toArray]
                  exact hu
              try
                case c2D => simp [Value.oneCell']
              try
                case c3D => first | omega | (unfold maxLen; omega)
              try
                case c4D => omega
              try
                case c5D => first | omega | (simp; done) | (simp; omega)
              intro v5 w5 own5 hgrow _
              obtain ⟨A5, cp5, hv5, _, _⟩ := own_shape own5
              subst hv5
              have ownA := own1.alloc (.cells #[.string n2, .int .i64 (sg * b.gap), .int .i64 (b.thick - b.land), .int .i64 (sg * b.wide), .int .i64 0] 83 (0, 0))
              have hB5 : Below w.heap.size w w5 := below_own (hB1.alloc hs1 _) (by omega) ownA hgrow
              have b75 := (b71.alloc (.cells #[.string n2, .int .i64 (sg * b.gap), .int .i64 (b.thick - b.land), .int .i64 (sg * b.wide), .int .i64 0] 83 (0, 0))).grown hgrow (own_ne ownA (.inl (Nat.lt_succ_self _)))
              have bb5 := (bb1.alloc (.cells #[.string n2, .int .i64 (sg * b.gap), .int .i64 (b.thick - b.land), .int .i64 (sg * b.wide), .int .i64 0] 83 (0, 0))).grown hgrow (own_ne ownA (.inl (by omega)))
              have br5 := (br1.alloc (.cells #[.string n2, .int .i64 (sg * b.gap), .int .i64 (b.thick - b.land), .int .i64 (sg * b.wide), .int .i64 0] 83 (0, 0))).grown hgrow (own_ne ownA (.inl (by omega)))
              have lt7 := b75.lt
              obtain ⟨p0, p1, p2, p3, pf⟩ := blk4 b75
              have hrow := own_set own5 (p := ⟨g7, 3, none⟩) (Nat.lt_succ_self _) (.slice A5 (fs.length + 1) cp5)
              go_wp2
              go_roundw
              case rel => exact ⟨m + 1, (.slice A5 (fs.length + 1) cp5), by omega, by go_num, b75.set_ 3 (.slice A5 (fs.length + 1) cp5), by rw [HF.out, HG.out, fcsC_append]; simpa [fcsC, List.append_assoc] using hrow, bb5.far (Ne.symm n7w) (.slice A5 (fs.length + 1) cp5), br5.far (Ne.symm n7r) (.slice A5 (fs.length + 1) cp5), hB5.setCell (by simp; omega) (.slice A5 (fs.length + 1) cp5)⟩
              case measure => simp [intOf]; omega
        · obtain rfl : m = 2 := by omega
          obtain ⟨A5, cp5, hv5, _, _⟩ := own_shape own
          subst hv5
          have e6 := Blk.set4 br (.string nm) (.int .i64 b.thick) (.int .i64 b.zone) (.slice A5 (bvH b 2).length cp5)
          obtain ⟨d0, d1, d2, d3, df⟩ := blk4 br
          obtain ⟨z0, z1, z2, z3, _⟩ := blk4 e6
          have hrow := ((own_set (own_set (own_set (own_set own (p := ⟨w.heap.size + 1, 0, none⟩) (by simp; omega) (.string nm)) (p := ⟨w.heap.size + 1, 1, none⟩) (by simp; omega) (.int .i64 b.thick)) (p := ⟨w.heap.size + 1, 2, none⟩) (by simp; omega) (.int .i64 b.zone)) (p := ⟨w.heap.size + 1, 3, none⟩) (by simp; omega) (.slice A5 (bvH b 2).length cp5)).mono (base' := w.heap.size) (by omega))
          go_wp2
          refine bodyPost_ret (v := .tuple #[.agg #[.string nm, .int .i64 b.thick,   .int .i64 b.zone, (.slice A5 (bvH b 2).length cp5)], .int .i64 0]) ?_ rfl ⟨⟨fun h => absurd HE0.out h, fun _ => ⟨.slice A5 (bvH b 2).length cp5, rfl, hrow⟩⟩, Below.set4 hBB (by omega)⟩
          simp [results, Tryz.results26, go_sem, z0, z1, z2, z3]
end Go.Proofs.YtaekcfancfoccaaGreatDoor
