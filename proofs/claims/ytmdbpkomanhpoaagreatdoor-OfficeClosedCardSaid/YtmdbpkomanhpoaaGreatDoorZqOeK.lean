/- A mark added: the walk (inspection.mark). -/
import Derived.Test.YtmdbpkomanhpoaaGreatDoorZqOeJ
namespace Go.Proofs.YtmdbpkomanhpoaaGreatDoor
open Go.RowKit Go.Lib

theorem Row.dropS {w : World} {B g o : Nat} {x : ByteArray} {l : List ByteArray} (h : Row w B 1 (some ⟨g, o, none⟩) (x :: l).length (strsC (x :: l))) : Row w B 1 (some ⟨g, o + 1, none⟩) l.length (strsC l) := by
  refine ⟨by simp [strsC], fun hn => ?_⟩
  obtain ⟨g', o', hA, hg, hc⟩ := h.2 (by simp)
  cases hA
  refine ⟨g, o + 1, rfl, hg, fun j u hu => ?_⟩
  have := hc (j + 1) u (by simpa [strsC] using hu)
  rwa [show o + (j + 1) = o + 1 + j by omega] at this
theorem FindR.one {st : In} {nm : ByteArray} {A : Option Addr} {e : Ending} (h : FindR st.ms nm A e) : ∃ V, e = .returned (.tuple #[V, .bool (mkIx st nm).isSome]) := by
  rcases h with ⟨h, rfl⟩ | ⟨k, g, hk, h, _, _, rfl⟩
  · exact ⟨_, by rw [show mkIx st nm = none from idxV_no h]; rfl⟩
  · exact ⟨_, by rw [show mkIx st nm = some k from idxV_some h]; rfl⟩
theorem own_at {w : World} {B e g n c : Nat} {v : Value} {xs : List Value} (h : w.ownsRow B e 1 (.slice (some ⟨g, 0, none⟩) n c) n xs) (hn : 0 < n) (hx : xs[0]? = some v) : w.cell? ⟨g, 0, none⟩ = some v := by
  obtain ⟨g', o, hA, hg, hc⟩ := (own_row_ h).2 (by omega)
  cases hA
  simpa using hc 0 _ hx
/-- What the last region of a mark reads. -/
structure MkS (q : Nat → Int) (gm gl gv c' N : Nat) (NN : List Value) (w : World) : Prop where
  bm : Blk w gm 93 #[.int .i64 (q 0), .int .i64 (q 1), .int .i64 (q 2), .int .i64 (q 3), .int .i64 (q 4), .int .i64 (q 5)]
  bl : Blk w gl 107 #[.slice (some ⟨gv, 0, none⟩) 7 c']
  hv : w.ownsRow N 3 1 (.slice (some ⟨gv, 0, none⟩) 7 c') 7 NN
theorem MkS.gr {q : Nat → Int} {gm gl gv c' N : Nat} {NN : List Value} {w w' : World} (h : MkS q gm gl gv c' N NN w) (hg : Gr w w') : MkS q gm gl gv c' N NN w' := ⟨Blk.gr h.bm hg, Blk.gr h.bl hg, own_below h.hv hg⟩
theorem MkS.grown {q : Nat → Int} {gm gl gv c' N base n : Nat} {NN xs : List Value} {v : Value} {w w' : World} (h : MkS q gm gl gv c' N NN w) (h' : w.ownsRow base 95 13 v n xs) (hg : w.grownBy w' v.ownBlock) : MkS q gm gl gv c' N NN w' :=
  ⟨h.bm.grown hg (own_ne_blk h' h.bm (by decide)).symm, h.bl.grown hg (own_ne_blk h' h.bl (by decide)).symm, own_while h.hv h' (by decide) hg⟩
theorem MkS.far {q : Nat → Int} {gm gl gv c' N bx : Nat} {NN : List Value} {w : World} {cs : Array Value} (h : MkS q gm gl gv c' N NN w) (hb : Blk w bx 74 cs) (i : Nat) (u : Value) : MkS q gm gl gv c' N NN (w.setCell ⟨bx, i, none⟩ u) :=
  ⟨h.bm.far (p := ⟨bx, i, none⟩) (Blk.ne_ h.bm hb (by decide)) u, h.bl.far (p := ⟨bx, i, none⟩) (Blk.ne_ h.bl hb (by decide)) u, own_other h.hv hb (by decide) i u⟩
theorem blk6o {w : World} {g t : Nat} {v0 v1 v2 v3 v4 v5 : Value} (h : Blk w g t #[v0, v1, v2, v3, v4, v5]) : w.cell? ⟨g, 0, none⟩ = some v0 ∧ w.cell? ⟨g, 1, none⟩ = some v1 ∧ w.cell? ⟨g, 2, none⟩ = some v2 ∧ w.cell? ⟨g, 3, none⟩ = some v3 ∧ w.cell? ⟨g, 4, none⟩ = some v4 ∧ w.cell? ⟨g, 5, none⟩ = some v5 := ⟨h.cell 0, h.cell 1, h.cell 2, h.cell 3, h.cell 4, h.cell 5⟩
set_option maxRecDepth 100000 in
set_option maxHeartbeats 4000000 in
theorem mark_any (s : Se) (m : Me) (B base bx : Nat) (a : Ia) (st : In) (bb nm y : ByteArray) (qs : List ByteArray) (A : Option Addr) (c C : Nat) (w : World) (h : Isp s m B base bx a st w) (hw : WsOk (nm :: y :: qs) A c C w) (h6 : qs.length = 6) (hj : (joinW qs).size ≤ 10000) (hL : LibW w) (hQ : Quant w) :
    Calls Tryz.prog 67 #[.pointer (some ⟨bx, 0, none⟩), .string bb, .slice A 8 c] w fun e w' => StepR s m B base bx a st (markE s st nm (y :: qs) qs) (markS st nm bb (y :: qs) qs) e w' ∧ Below base w w' := by
  obtain ⟨i0, hi, hz0, hz1, hz2⟩ := info_parts infoMk
  have HI := Lib.hid h
  have hbw : base ≤ w.heap.size := Nat.le_trans h.lo (Nat.le_of_lt h.blk.lt)
  obtain ⟨gw, ow, hA, hgw, x0⟩ := strRow_at hw.row (k := 0) (by simp)
  subst hA
  have hgw2 : gw < w.heap.size := Nat.lt_of_lt_of_le hgw hw.base
  have hc8 : 8 ≤ c := by have := hw.len; simp at this; omega
  have HN := Lib.hid (numbers_any (y :: qs) (some ⟨gw, ow + 1, none⟩) (c - 1) C w hw.row.dropS hw.base (by have := hw.few; simp at this ⊢; omega) (fun x hx => Nat.le_trans (hw.sz x (List.mem_cons_of_mem _ hx)) (by decide)) hL)
  have HW := Lib.hid hw; have HL := Lib.hid hL; have HQ := Lib.hid hQ
  clear h hw hL hQ
  simp only [List.getElem_cons_zero, Nat.add_zero] at x0
  have h7 : (y :: qs).length = 7 := by simp [h6]
  rw [h7] at HN
  have HE : Hid (markE s st nm (y :: qs) qs = if numsO (y :: qs) = false then 7 else if st.ms.length = 10 then 16 else if nameB nm = false then 4 else if (mkIx st nm).isSome = true then 5 else
    if pmE (joinW qs) ≠ 0 then pmE (joinW qs) else if mkOf (joinW qs) 1 ≠ s.thick then 23 else
    if ((scanR s.tk (readsL st.sc)).any fun r => wi (nW (y :: qs) 0) r.1 r.2) = false then 14 else 0) := Lib.hid rfl
  have HST : Hid (markS st nm bb (y :: qs) qs = { st with ms := st.ms ++ [⟨nm, bb, nW (y :: qs) 0, mkOf (joinW qs), 0, 0, 0, ⟨#[]⟩⟩] }) := Lib.hid rfl
  have HNW : Hid ((intsC (numsOf (y :: qs)))[0]? = some (.int .i64 (nW (y :: qs) 0))) := Lib.hid (nW_at (by simp))
  generalize markE s st nm (y :: qs) qs = E at *
  generalize markS st nm bb (y :: qs) qs = st' at *
  go_enter Tryz.func67, Tryz.ntmps67
  go_wp2_with fail
  refine HN.out.mono ?_
  rintro e wn ⟨hN, hB1⟩
  rcases hN with ⟨n0, rfl⟩ | ⟨n1, v, rfl, hv⟩
  · replace HE := Lib.hid (HE.out.trans (if_pos n0))
    have hB2 := hB1.alloc hB1.size (.cells #[.slice none 0 0] 107 (0, 0))
    have HX := Lib.hid (HI.out.below hB2 (Nat.le_refl _))
    clear n0
    go_wp2
    go_ret
    exact ⟨⟨by rw [HE.out]; rfl, fun _ => HX.out, fun e => by rw [HE.out] at e; cases e⟩, hB2.mono hbw⟩
  replace HE := Lib.hid (HE.out.trans (if_neg (by simp [n1])))
  clear n1
  rw [h7] at hv
  obtain ⟨A', c', rfl, hc1, hc2, hR⟩ := Row.ownd hv
  obtain ⟨gv, rfl⟩ : ∃ gv, A' = some ⟨gv, 0, none⟩ := by
    obtain ⟨_, ⟨hx, _⟩ | ⟨g, cap, cur, hx, _⟩⟩ := hv
    · cases hx
    · cases hx; exact ⟨g, rfl⟩
  clear hR HN
  generalize hNN : intsC (numsOf (y :: qs)) = NN at *
  clear hNN
  generalize nW (y :: qs) 0 = po at *
  have hB2 := hB1.alloc hB1.size (.cells #[.slice (some ⟨gv, 0, none⟩) 7 c'] 107 (0, 0))
  have bl := Blk.new wn 107 #[.slice (some ⟨gv, 0, none⟩) 7 c']
  have hv1 := hv.alloc (.cells #[.slice (some ⟨gv, 0, none⟩) 7 c'] 107 (0, 0))
  have x1 := (hB2.cell (p := ⟨gw, ow, none⟩) hgw2).trans x0
  have hgl : w.heap.size ≤ wn.heap.size := hB1.size
  clear hv x0
  generalize hWl : wn.alloc (.cells #[.slice (some ⟨gv, 0, none⟩) 7 c'] 107) = Wl at *
  have HF := Lib.hid (find_any s m B base bx a st nm Wl (HI.out.below hB2 (Nat.le_refl _)))
  have hgwl : gw < Wl.heap.size := Nat.lt_of_lt_of_le hgw2 hB2.size
  have HV1 := Lib.hid hv1; clear hv1
  go_wp2_with fail
  clear hWl
  generalize wn.heap.size = gl at *
  refine HF.out.mono ?_
  rintro e W2 ⟨hFR, hB3⟩
  obtain ⟨V, rfl⟩ := hFR.one
  clear hFR HF
  have hB4 := hB2.trans (hB3.mono hB2.size)
  have bl2 := bl.below hB3 bl.lt
  have HV2 := Lib.hid (own_below HV1.out hB3)
  have HX2 := Lib.hid (HI.out.below hB4 (Nat.le_refl _))
  clear hB1 hB2 hB3 bl HV1 x1 hgwl
  obtain ⟨kn, hkn⟩ : ∃ kn, (mkIx st nm).isSome = kn := ⟨_, rfl⟩
  rw [hkn] at HE ⊢
  clear hkn
  have hnm : nm.size ≤ 1000000000000 := Nat.le_trans (HW.out.sz nm (by simp)) (by decide)
  obtain ⟨c0, c1, c2, c3, c4, c5, c6, c7, c8, c9, c10, c11, c12, c13, c14, c15, c16, cf⟩ := blk17 HX2.out.blk
  have lb := HX2.out.blk.lt
  clear c0 c1 c2 c3 c4 c5 c6 c7 c8 c9 c10 c11 c12 c13 c14 c16 cf
  by_cases hfull : st.ms.length = 10
  · replace HE := Lib.hid (HE.out.trans (if_pos hfull))
    have hf1 : ((st.ms.length : Int) == 10) = true := by rw [hfull]; rfl
    clear hfull
    go_wp2
    go_ret
    exact ⟨⟨by rw [HE.out]; rfl, fun _ => HX2.out, fun e => by rw [HE.out] at e; cases e⟩, hB4.mono hbw⟩
  replace HE := Lib.hid (HE.out.trans (if_neg hfull))
  have hf1 : ((st.ms.length : Int) == 10) = false := by simp; omega
  have hlm : st.ms.length < 10 := by have := HX2.out.lim.ms; omega
  have hlmi : (st.ms.length : Int) < 10 := by omega
  clear hfull
  obtain ⟨nb, hnb⟩ : ∃ nb, nameB nm = nb := ⟨_, rfl⟩
  have HNM := Lib.hid (oIsName_any nm W2 hnm)
  rw [hnb] at HE HNM
  clear hnb
  cases nb
  · replace HE := Lib.hid (HE.out.trans (if_pos rfl))
    go_wp2_with (go_at_call 100; refine HNM.out.mono ?_; rintro e w1 ⟨rfl, rfl⟩)
    go_ret
    exact ⟨⟨by rw [HE.out]; rfl, fun _ => HX2.out, fun e => by rw [HE.out] at e; cases e⟩, hB4.mono hbw⟩
  replace HE := Lib.hid (HE.out.trans (if_neg (by simp)))
  cases kn
  rotate_left
  · replace HE := Lib.hid (HE.out.trans (if_pos rfl))
    go_wp2_with (go_at_call 100; refine HNM.out.mono ?_; rintro e w1 ⟨rfl, rfl⟩)
    go_ret
    exact ⟨⟨by rw [HE.out]; rfl, fun _ => HX2.out, fun e => by rw [HE.out] at e; cases e⟩, hB4.mono hbw⟩
  replace HE := Lib.hid (HE.out.trans (if_neg (by simp)))
  go_upto_region 12 with (go_at_call 100; refine HNM.out.mono ?_; rintro e w1 ⟨rfl, rfl⟩)
  clear c15 lb hf1 HNM
  have HJN : Hid (∀ W, Below w.heap.size w W → Calls Tryz.prog 31 #[.slice (some ⟨gw, ow + 2, none⟩) 6 (c - 2), .string ⟨#[32]⟩] W fun e w' => e = .returned (.string (joinW qs)) ∧ Below W.heap.size W w') := Lib.hid fun W hW => by
    have hr : Row w C 1 (some ⟨gw, ow + 2, none⟩) qs.length (strsC qs) := HW.out.row.dropS.dropS
    have hq := join_row qs 32 _ (c - 2) C W (hr.below hW HW.out.base) (Nat.le_trans HW.out.base hW.size) (fun e => by rw [e] at h6; cases h6) (by rw [h6]; omega) (by unfold joinW at hj; rw [strB_size] at hj; omega) (by rw [h6]; decide)
    rw [h6] at hq
    exact hq
  have HPM : Hid (∀ W, Below w.heap.size w W → Calls Tryz.prog 101 #[.string (joinW qs)] W fun e w' => PmR (joinW qs) e ∧ Below W.heap.size W w') := Lib.hid fun W hW => parseMark_any _ W hj (HL.out.below hW (Nat.le_refl _)) (HQ.out.below hW (Nat.le_refl _))
  clear HL HQ HW hj
  generalize joinW qs = jt at *
  go_wp2_with fail
  refine (HJN.out W2 hB4).mono ?_
  rintro e W3 ⟨rfl, hB5⟩
  have hB6 := hB4.trans (hB5.mono hB4.size)
  go_wp2_with fail
  refine (HPM.out W3 hB6).mono ?_
  rintro e W4 ⟨hP, hB7⟩
  have hB8 := hB6.trans (hB7.mono hB6.size)
  unfold PmR at hP
  subst hP
  clear HJN HPM
  have hBq : Below W2.heap.size W2 W4 := hB5.trans (hB7.mono hB5.size)
  have bl4 := bl2.below hBq bl2.lt
  have HV4 := Lib.hid (own_below HV2.out hBq)
  have HX4 := Lib.hid (HX2.out.below hBq (Nat.le_refl _))
  clear hB5 hB6 hB7 hB4 hBq bl2 HV2 HX2
  by_cases hp : pmE jt = 0
  · rw [pmV_ok hp, hp]
    replace HE := Lib.hid (HE.out.trans (if_neg (by simp [hp])))
    clear hp
    generalize mkOf jt = q at *
    unfold mkM
    have hB9 := hB8.alloc hB8.size (.cells #[.int .i64 (q 0), .int .i64 (q 1), .int .i64 (q 2), .int .i64 (q 3), .int .i64 (q 4), .int .i64 (q 5)] 93 (0, 0))
    have bm := Blk.new W4 93 #[.int .i64 (q 0), .int .i64 (q 1), .int .i64 (q 2), .int .i64 (q 3), .int .i64 (q 4), .int .i64 (q 5)]
    have bl5 := bl4.alloc (.cells #[.int .i64 (q 0), .int .i64 (q 1), .int .i64 (q 2), .int .i64 (q 3), .int .i64 (q 4), .int .i64 (q 5)] 93 (0, 0))
    have HV5 := Lib.hid (HV4.out.alloc (.cells #[.int .i64 (q 0), .int .i64 (q 1), .int .i64 (q 2), .int .i64 (q 3), .int .i64 (q 4), .int .i64 (q 5)] 93 (0, 0)))
    have hg4 : w.heap.size ≤ W4.heap.size := hB8.size
    clear bl4 HV4
    generalize hW5 : W4.alloc (.cells #[.int .i64 (q 0), .int .i64 (q 1), .int .i64 (q 2), .int .i64 (q 3), .int .i64 (q 4), .int .i64 (q 5)] 93) = W5 at *
    go_upto_region 15 with fail
    clear hW5
    generalize W4.heap.size = gm at *
    have HX5 := Lib.hid (HI.out.below hB9 (Nat.le_refl _))
    clear hB8 HX4
    obtain ⟨c0, c1, c2, c3, c4, c5, c6, c7, c8, c9, c10, c11, c12, c13, c14, c15, c16, cf⟩ := blk17 HX5.out.blk
    have lb := HX5.out.blk.lt
    clear c0 c1 c2 c3 c5 c6 c7 c8 c9 c10 c11 c12 c13 c14 c15 c16 cf
    have d1 := bm.cell 1
    have lm := bm.lt
    by_cases hq1 : q 1 = s.thick
    · replace HE := Lib.hid (HE.out.trans (if_neg (by simp [hq1])))
      have hq2 : (q 1 != s.thick) = false := by simp [hq1]
      have HQ1 := Lib.hid hq1; clear hq1
      refine wp_region_b 9 (by kernel_rfl) (by kernel_rfl) ?_; simp only [List.take, List.drop]
      repeat (first
        | (apply StepsD.run
           · go_simp
             done
           · intro w' hS K hK
             have hc := (bcell hS).1
             have hf := (bcell hS).2
             have hz := hS.size
             try simp at hz
             go_simp
             try go_bits
             first
               | exact hK _ hS
               | fail
               | exact hK _ (by repeat (first | (with_reducible exact Below.refl _ _) | (with_reducible assumption) | ((with_reducible refine Below.setCell ?_ ?_ _); rotate_left; · (first | exact Nat.le_refl _ | (simp; done) | (simp; omega) | omega)) | ((with_reducible refine Below.alloc ?_ ?_ _); rotate_left; · (first | exact Nat.le_refl _ | (simp; done) | (simp; omega) | omega)) | (with_reducible apply Below.drew) | (with_reducible apply below_drewN') | (refine Below.trans ?_ (Below.mono (by assumption) (by first | exact Nat.le_refl _ | (simp; done) | (simp; omega) | omega))) | exact Below.refl _ _ | assumption))
           · simp [Act.put]
             done)
        | (apply StepsD.pass
           · first | (go_simp; done) | rfl
           · simp only [Act.put, List.setIfInBounds_toArray, List.set_cons_succ, List.set_cons_zero]
             rfl))
      intro W6 hS6
      have hB10 := hB9.trans (hS6.mono hB9.size)
      have bm6 := bm.below hS6 bm.lt
      have bl6 := bl5.below hS6 bl5.lt
      have HV6 := Lib.hid (own_below HV5.out hS6)
      have HX6 := Lib.hid (HX5.out.below hS6 (Nat.le_refl _))
      clear hS6 hB9 bm bl5 HV5 HX5 c4 d1 lm lb
      go_upto_region 17 with fail
      clear hq2
      obtain ⟨c0, c1, c2, c3, c4, c5, c6, c7, c8, c9, c10, c11, c12, c13, c14, c15, c16, cf⟩ := blk17 HX6.out.blk
      have lb := HX6.out.blk.lt
      have HRD : Hid (∀ W, Below W6.heap.size W6 W → Calls Tryz.prog 42 #[.pointer (some ⟨bx, 0, none⟩)] W fun e w' => ∃ v, e = .returned v ∧ w'.ownsRow W.heap.size 3 1 v (readsL st.sc).length (intsC (readsL st.sc)) ∧ Below W.heap.size W w') := Lib.hid fun W hW => readings_any s m B base bx a st W (HX6.out.below hW (Nat.le_refl _))
      have HSC : Hid (∀ W A c, InOk (readsL st.sc) A c W.heap.size W → Calls Tryz.prog 102 #[.agg (tkC s.tk), .slice A (readsL st.sc).length c] W fun e w' => ∃ v, e = .returned (.tuple #[v, .int .i64 (openE s.tk (readsL st.sc))]) ∧ w'.ownsRow W.heap.size 68 2 v (scanR s.tk (readsL st.sc)).length (rngsC (scanR s.tk (readsL st.sc))) ∧ Below W.heap.size W w') := Lib.hid fun W A c h => scanned_any s.tk _ A c _ W h
      have HOK : Hid (∀ W A c, Row W W.heap.size 1 A (readsL st.sc).length (intsC (readsL st.sc)) → InOk (readsL st.sc) A c W.heap.size W) := Lib.hid fun W A c h => ⟨Nat.le_trans (readsL_len _) (Nat.le_trans HX6.out.lim.sc (by decide)), fun p hp => (by
        unfold readsL at hp
        obtain ⟨x, hx, rfl⟩ := List.mem_map.1 hp
        have := HX6.out.lim.pos x ((List.mem_filter.1 hx).1)
        unfold I64
        omega), h, Nat.le_refl _⟩
      unfold tkC at HSC
      clear c0 c1 c2 c3 c4 c5 c10 c11 c12 c13 c14 c15 c16
      refine wp_region_w (Gr _) (by kernel_rfl) (Below.refl _ _).drew ?_
      refine wpW_det (t' := ?ct0R15) 0 (by rfl) (by kernel_rfl) (NQ_free _) (by kernel_rfl) ?cw0R15 ?ch0R15 ?ca0R15 (Eq.refl _) ?cH0R15
      case cw0R15 => (go_simp; done)
      case ch0R15 =>
        intro ds w' hS K hK
        have hc := (bcell hS).1
        have hf := (bcell hS).2
        have hz := hS.size
        try simp at hz
        go_simp
        try go_bits
        first
          | exact hK _ hS (Gr.refl _)
          | exact hK _ (by repeat (first | (with_reducible exact Below.refl _ _) | (with_reducible assumption) | ((with_reducible refine Below.setCell ?_ ?_ _); rotate_left; · (first | exact Nat.le_refl _ | (simp; done) | (simp; omega) | omega)) | ((with_reducible refine Below.alloc ?_ ?_ _); rotate_left; · (first | exact Nat.le_refl _ | (simp; done) | (simp; omega) | omega)) | (with_reducible apply Below.drew) | (with_reducible apply below_drewN') | (refine Below.trans ?_ (Below.mono (by assumption) (by first | exact Nat.le_refl _ | (simp; done) | (simp; omega) | omega))) | exact Below.refl _ _ | assumption)) (by repeat (first | (with_reducible exact Below.refl _ _) | (with_reducible assumption) | ((with_reducible refine Below.setCell ?_ ?_ _); rotate_left; · (first | exact Nat.le_refl _ | (simp; done) | (simp; omega) | omega)) | ((with_reducible refine Below.alloc ?_ ?_ _); rotate_left; · (first | exact Nat.le_refl _ | (simp; done) | (simp; omega) | omega)) | (with_reducible apply Below.drew) | (with_reducible apply below_drewN') | (refine Below.trans ?_ (Below.mono (by assumption) (by first | exact Nat.le_refl _ | (simp; done) | (simp; omega) | omega))) | exact Below.refl _ _ | assumption))
      case ca0R15 => (first | (simp [Act.put]; done) | (simp [Act.put, *]; done))
      try dsimp only
      refine wpW_det (t' := ?ct1R15) 1 (by rfl) (by kernel_rfl) (NQ_free _) (by kernel_rfl) ?cw1R15 ?ch1R15 ?ca1R15 (Eq.refl _) ?cH1R15
      case cw1R15 => (go_simp; done)
      case ch1R15 =>
        intro ds w' hS K hK
        have hc := (bcell hS).1
        have hf := (bcell hS).2
        have hz := hS.size
        try simp at hz
        go_simp
        try go_bits
        first
          | exact hK _ hS (Gr.refl _)
          | exact hK _ (by repeat (first | (with_reducible exact Below.refl _ _) | (with_reducible assumption) | ((with_reducible refine Below.setCell ?_ ?_ _); rotate_left; · (first | exact Nat.le_refl _ | (simp; done) | (simp; omega) | omega)) | ((with_reducible refine Below.alloc ?_ ?_ _); rotate_left; · (first | exact Nat.le_refl _ | (simp; done) | (simp; omega) | omega)) | (with_reducible apply Below.drew) | (with_reducible apply below_drewN') | (refine Below.trans ?_ (Below.mono (by assumption) (by first | exact Nat.le_refl _ | (simp; done) | (simp; omega) | omega))) | exact Below.refl _ _ | assumption)) (by repeat (first | (with_reducible exact Below.refl _ _) | (with_reducible assumption) | ((with_reducible refine Below.setCell ?_ ?_ _); rotate_left; · (first | exact Nat.le_refl _ | (simp; done) | (simp; omega) | omega)) | ((with_reducible refine Below.alloc ?_ ?_ _); rotate_left; · (first | exact Nat.le_refl _ | (simp; done) | (simp; omega) | omega)) | (with_reducible apply Below.drew) | (with_reducible apply below_drewN') | (refine Below.trans ?_ (Below.mono (by assumption) (by first | exact Nat.le_refl _ | (simp; done) | (simp; omega) | omega))) | exact Below.refl _ _ | assumption))
      case ca1R15 => (first | (simp [Act.put]; done) | (simp [Act.put, *]; done))
      try dsimp only
      refine wpW_det (t' := ?ct2R15) 2 (by rfl) (by kernel_rfl) (NQ_free _) (by kernel_rfl) ?cw2R15 ?ch2R15 ?ca2R15 (Eq.refl _) ?cH2R15
      case cw2R15 => (go_simp; done)
      case ch2R15 =>
        intro ds w' hS K hK
        have hc := (bcell hS).1
        have hf := (bcell hS).2
        have hz := hS.size
        try simp at hz
        go_simp
        try go_bits
        first
          | exact hK _ hS (Gr.refl _)
          | exact hK _ (by repeat (first | (with_reducible exact Below.refl _ _) | (with_reducible assumption) | ((with_reducible refine Below.setCell ?_ ?_ _); rotate_left; · (first | exact Nat.le_refl _ | (simp; done) | (simp; omega) | omega)) | ((with_reducible refine Below.alloc ?_ ?_ _); rotate_left; · (first | exact Nat.le_refl _ | (simp; done) | (simp; omega) | omega)) | (with_reducible apply Below.drew) | (with_reducible apply below_drewN') | (refine Below.trans ?_ (Below.mono (by assumption) (by first | exact Nat.le_refl _ | (simp; done) | (simp; omega) | omega))) | exact Below.refl _ _ | assumption)) (by repeat (first | (with_reducible exact Below.refl _ _) | (with_reducible assumption) | ((with_reducible refine Below.setCell ?_ ?_ _); rotate_left; · (first | exact Nat.le_refl _ | (simp; done) | (simp; omega) | omega)) | ((with_reducible refine Below.alloc ?_ ?_ _); rotate_left; · (first | exact Nat.le_refl _ | (simp; done) | (simp; omega) | omega)) | (with_reducible apply Below.drew) | (with_reducible apply below_drewN') | (refine Below.trans ?_ (Below.mono (by assumption) (by first | exact Nat.le_refl _ | (simp; done) | (simp; omega) | omega))) | exact Below.refl _ _ | assumption))
      case ca2R15 => (first | (simp [Act.put]; done) | (simp [Act.put, *]; done))
      try dsimp only
      refine wpW_det (t' := ?ct3R15) 3 (by rfl) (by kernel_rfl) (NQ_free _) (by kernel_rfl) ?cw3R15 ?ch3R15 ?ca3R15 (Eq.refl _) ?cH3R15
      case cw3R15 => (go_simp; done)
      case ch3R15 =>
        intro ds w' hS K hK
        have hc := (bcell hS).1
        have hf := (bcell hS).2
        have hz := hS.size
        try simp at hz
        go_simp
        try go_bits
        first
          | exact hK _ hS (Gr.refl _)
          | exact hK _ (by repeat (first | (with_reducible exact Below.refl _ _) | (with_reducible assumption) | ((with_reducible refine Below.setCell ?_ ?_ _); rotate_left; · (first | exact Nat.le_refl _ | (simp; done) | (simp; omega) | omega)) | ((with_reducible refine Below.alloc ?_ ?_ _); rotate_left; · (first | exact Nat.le_refl _ | (simp; done) | (simp; omega) | omega)) | (with_reducible apply Below.drew) | (with_reducible apply below_drewN') | (refine Below.trans ?_ (Below.mono (by assumption) (by first | exact Nat.le_refl _ | (simp; done) | (simp; omega) | omega))) | exact Below.refl _ _ | assumption)) (by repeat (first | (with_reducible exact Below.refl _ _) | (with_reducible assumption) | ((with_reducible refine Below.setCell ?_ ?_ _); rotate_left; · (first | exact Nat.le_refl _ | (simp; done) | (simp; omega) | omega)) | ((with_reducible refine Below.alloc ?_ ?_ _); rotate_left; · (first | exact Nat.le_refl _ | (simp; done) | (simp; omega) | omega)) | (with_reducible apply Below.drew) | (with_reducible apply below_drewN') | (refine Below.trans ?_ (Below.mono (by assumption) (by first | exact Nat.le_refl _ | (simp; done) | (simp; omega) | omega))) | exact Below.refl _ _ | assumption))
      case ca3R15 => (first | (simp [Act.put]; done) | (simp [Act.put, *]; done))
      try dsimp only
      refine wpW_det (t' := ?ct4R15) 4 (by rfl) (by kernel_rfl) (NQ_free _) (by kernel_rfl) ?cw4R15 ?ch4R15 ?ca4R15 (Eq.refl _) ?cH4R15
      case cw4R15 => (go_simp; done)
      case ch4R15 =>
        intro ds w' hS K hK
        have hc := (bcell hS).1
        have hf := (bcell hS).2
        have hz := hS.size
        try simp at hz
        go_simp
        try go_bits
        first
          | exact hK _ hS (Gr.refl _)
          | exact hK _ (by repeat (first | (with_reducible exact Below.refl _ _) | (with_reducible assumption) | ((with_reducible refine Below.setCell ?_ ?_ _); rotate_left; · (first | exact Nat.le_refl _ | (simp; done) | (simp; omega) | omega)) | ((with_reducible refine Below.alloc ?_ ?_ _); rotate_left; · (first | exact Nat.le_refl _ | (simp; done) | (simp; omega) | omega)) | (with_reducible apply Below.drew) | (with_reducible apply below_drewN') | (refine Below.trans ?_ (Below.mono (by assumption) (by first | exact Nat.le_refl _ | (simp; done) | (simp; omega) | omega))) | exact Below.refl _ _ | assumption)) (by repeat (first | (with_reducible exact Below.refl _ _) | (with_reducible assumption) | ((with_reducible refine Below.setCell ?_ ?_ _); rotate_left; · (first | exact Nat.le_refl _ | (simp; done) | (simp; omega) | omega)) | ((with_reducible refine Below.alloc ?_ ?_ _); rotate_left; · (first | exact Nat.le_refl _ | (simp; done) | (simp; omega) | omega)) | (with_reducible apply Below.drew) | (with_reducible apply below_drewN') | (refine Below.trans ?_ (Below.mono (by assumption) (by first | exact Nat.le_refl _ | (simp; done) | (simp; omega) | omega))) | exact Below.refl _ _ | assumption))
      case ca4R15 => (first | (simp [Act.put]; done) | (simp [Act.put, *]; done))
      try dsimp only
      refine wpW_det (t' := ?ct5R15) 5 (by rfl) (by kernel_rfl) (NQ_free _) (by kernel_rfl) ?cw5R15 ?ch5R15 ?ca5R15 (Eq.refl _) ?cH5R15
      case cw5R15 => (go_simp; done)
      case ch5R15 =>
        intro ds w' hS K hK
        have hc := (bcell hS).1
        have hf := (bcell hS).2
        have hz := hS.size
        try simp at hz
        go_simp
        try go_bits
        first
          | exact hK _ hS (Gr.refl _)
          | exact hK _ (by repeat (first | (with_reducible exact Below.refl _ _) | (with_reducible assumption) | ((with_reducible refine Below.setCell ?_ ?_ _); rotate_left; · (first | exact Nat.le_refl _ | (simp; done) | (simp; omega) | omega)) | ((with_reducible refine Below.alloc ?_ ?_ _); rotate_left; · (first | exact Nat.le_refl _ | (simp; done) | (simp; omega) | omega)) | (with_reducible apply Below.drew) | (with_reducible apply below_drewN') | (refine Below.trans ?_ (Below.mono (by assumption) (by first | exact Nat.le_refl _ | (simp; done) | (simp; omega) | omega))) | exact Below.refl _ _ | assumption)) (by repeat (first | (with_reducible exact Below.refl _ _) | (with_reducible assumption) | ((with_reducible refine Below.setCell ?_ ?_ _); rotate_left; · (first | exact Nat.le_refl _ | (simp; done) | (simp; omega) | omega)) | ((with_reducible refine Below.alloc ?_ ?_ _); rotate_left; · (first | exact Nat.le_refl _ | (simp; done) | (simp; omega) | omega)) | (with_reducible apply Below.drew) | (with_reducible apply below_drewN') | (refine Below.trans ?_ (Below.mono (by assumption) (by first | exact Nat.le_refl _ | (simp; done) | (simp; omega) | omega))) | exact Below.refl _ _ | assumption))
      case ca5R15 => (first | (simp [Act.put]; done) | (simp [Act.put, *]; done))
      try dsimp only
      clear c6 c7 c8 c9 cf lb
      refine wpW_branch [6] (by kernel_rfl) (by simp) ?_
      intro u6 hg_u6 hS_u6
      refine each_cons ?_ each_nil
      refine wpOp_go (by rfl) (Eq.refl _) (by go_simp; done) ?_
      intro K hK
      go_simp
      try simp only [Act.put]
      refine (HRD.out _ hS_u6).mono ?_
      rintro e wq ⟨v, rfl, hv, hBq⟩
      obtain ⟨A3, c3, e1, _, _, _⟩ := Row.ownd hv
      subst e1
      replace hv := hv.mono (base' := W6.heap.size) (Below.size hS_u6)
      refine hK _ _ (Below.trans hS_u6 (hBq.mono (Below.size hS_u6))) ?_
      clear hK K hBq
      refine wpW_branch [7] (by kernel_rfl) (by simp) ?_
      intro u7 hg_u7 hS_u7
      replace hv := own_below hv hg_u7
      refine each_cons ?_ each_nil
      refine wpOp_go (by rfl) (Eq.refl _) (by go_simp; done) ?_
      intro K hK
      go_simp
      try simp only [Act.put]
      refine (HSC.out _ _ _ (HOK.out _ _ _ (own_row_ hv))).mono ?_
      rintro e wr ⟨v2, rfl, hv2, hBr⟩
      replace hv2 := hv2.mono (base' := W6.heap.size) (Below.size hS_u7)
      refine hK _ _ (Below.trans hS_u7 (hBr.mono (Below.size hS_u7))) ?_
      clear hK K hBr hv
      refine wpW_det (t' := ?ct8R16) 8 (by rfl) (by kernel_rfl) (NQ_free _) (by kernel_rfl) ?cw8R16 ?ch8R16 ?ca8R16 (Eq.refl _) ?cH8R16
      case cw8R16 => (go_simp; done)
      case ch8R16 =>
        intro ds w' hS K hK
        have hc := (bcell hS).1
        have hf := (bcell hS).2
        have hz := hS.size
        try simp at hz
        go_simp
        try go_bits
        first
          | exact hK _ hS (Gr.refl _)
          | exact hK _ (by repeat (first | (with_reducible exact Below.refl _ _) | (with_reducible assumption) | ((with_reducible refine Below.setCell ?_ ?_ _); rotate_left; · (first | exact Nat.le_refl _ | (simp; done) | (simp; omega) | omega)) | ((with_reducible refine Below.alloc ?_ ?_ _); rotate_left; · (first | exact Nat.le_refl _ | (simp; done) | (simp; omega) | omega)) | (with_reducible apply Below.drew) | (with_reducible apply below_drewN') | (refine Below.trans ?_ (Below.mono (by assumption) (by first | exact Nat.le_refl _ | (simp; done) | (simp; omega) | omega))) | exact Below.refl _ _ | assumption)) (by repeat (first | (with_reducible exact Below.refl _ _) | (with_reducible assumption) | ((with_reducible refine Below.setCell ?_ ?_ _); rotate_left; · (first | exact Nat.le_refl _ | (simp; done) | (simp; omega) | omega)) | ((with_reducible refine Below.alloc ?_ ?_ _); rotate_left; · (first | exact Nat.le_refl _ | (simp; done) | (simp; omega) | omega)) | (with_reducible apply Below.drew) | (with_reducible apply below_drewN') | (refine Below.trans ?_ (Below.mono (by assumption) (by first | exact Nat.le_refl _ | (simp; done) | (simp; omega) | omega))) | exact Below.refl _ _ | assumption))
      case ca8R16 => (first | (simp [Act.put]; done) | (simp [Act.put, *]; done))
      try dsimp only
      refine wpW_det (t' := ?ct9R16) 9 (by rfl) (by kernel_rfl) (NQ_free _) (by kernel_rfl) ?cw9R16 ?ch9R16 ?ca9R16 (Eq.refl _) ?cH9R16
      case cw9R16 => (go_simp; done)
      case ch9R16 =>
        intro ds w' hS K hK
        have hc := (bcell hS).1
        have hf := (bcell hS).2
        have hz := hS.size
        try simp at hz
        go_simp
        try go_bits
        first
          | exact hK _ hS (Gr.refl _)
          | exact hK _ (by repeat (first | (with_reducible exact Below.refl _ _) | (with_reducible assumption) | ((with_reducible refine Below.setCell ?_ ?_ _); rotate_left; · (first | exact Nat.le_refl _ | (simp; done) | (simp; omega) | omega)) | ((with_reducible refine Below.alloc ?_ ?_ _); rotate_left; · (first | exact Nat.le_refl _ | (simp; done) | (simp; omega) | omega)) | (with_reducible apply Below.drew) | (with_reducible apply below_drewN') | (refine Below.trans ?_ (Below.mono (by assumption) (by first | exact Nat.le_refl _ | (simp; done) | (simp; omega) | omega))) | exact Below.refl _ _ | assumption)) (by repeat (first | (with_reducible exact Below.refl _ _) | (with_reducible assumption) | ((with_reducible refine Below.setCell ?_ ?_ _); rotate_left; · (first | exact Nat.le_refl _ | (simp; done) | (simp; omega) | omega)) | ((with_reducible refine Below.alloc ?_ ?_ _); rotate_left; · (first | exact Nat.le_refl _ | (simp; done) | (simp; omega) | omega)) | (with_reducible apply Below.drew) | (with_reducible apply below_drewN') | (refine Below.trans ?_ (Below.mono (by assumption) (by first | exact Nat.le_refl _ | (simp; done) | (simp; omega) | omega))) | exact Below.refl _ _ | assumption))
      case ca9R16 => (first | (simp [Act.put]; done) | (simp [Act.put, *]; done))
      try dsimp only
      refine wpW_det (t' := ?ct10R16) 10 (by rfl) (by kernel_rfl) (NQ_free _) (by kernel_rfl) ?cw10R16 ?ch10R16 ?ca10R16 (Eq.refl _) ?cH10R16
      case cw10R16 => (go_simp; done)
      case ch10R16 =>
        intro ds w' hS K hK
        have hc := (bcell hS).1
        have hf := (bcell hS).2
        have hz := hS.size
        try simp at hz
        go_simp
        try go_bits
        first
          | exact hK _ hS (Gr.refl _)
          | exact hK _ (by repeat (first | (with_reducible exact Below.refl _ _) | (with_reducible assumption) | ((with_reducible refine Below.setCell ?_ ?_ _); rotate_left; · (first | exact Nat.le_refl _ | (simp; done) | (simp; omega) | omega)) | ((with_reducible refine Below.alloc ?_ ?_ _); rotate_left; · (first | exact Nat.le_refl _ | (simp; done) | (simp; omega) | omega)) | (with_reducible apply Below.drew) | (with_reducible apply below_drewN') | (refine Below.trans ?_ (Below.mono (by assumption) (by first | exact Nat.le_refl _ | (simp; done) | (simp; omega) | omega))) | exact Below.refl _ _ | assumption)) (by repeat (first | (with_reducible exact Below.refl _ _) | (with_reducible assumption) | ((with_reducible refine Below.setCell ?_ ?_ _); rotate_left; · (first | exact Nat.le_refl _ | (simp; done) | (simp; omega) | omega)) | ((with_reducible refine Below.alloc ?_ ?_ _); rotate_left; · (first | exact Nat.le_refl _ | (simp; done) | (simp; omega) | omega)) | (with_reducible apply Below.drew) | (with_reducible apply below_drewN') | (refine Below.trans ?_ (Below.mono (by assumption) (by first | exact Nat.le_refl _ | (simp; done) | (simp; omega) | omega))) | exact Below.refl _ _ | assumption))
      case ca10R16 => (first | (simp [Act.put]; done) | (simp [Act.put, *]; done))
      try dsimp only
      refine wpW_det (t' := ?ct11R16) 11 (by rfl) (by kernel_rfl) (NQ_free _) (by kernel_rfl) ?cw11R16 ?ch11R16 ?ca11R16 (Eq.refl _) ?cH11R16
      case cw11R16 => (go_simp; done)
      case ch11R16 =>
        intro ds w' hS K hK
        have hc := (bcell hS).1
        have hf := (bcell hS).2
        have hz := hS.size
        try simp at hz
        go_simp
        try go_bits
        first
          | exact hK _ hS (Gr.refl _)
          | exact hK _ (by repeat (first | (with_reducible exact Below.refl _ _) | (with_reducible assumption) | ((with_reducible refine Below.setCell ?_ ?_ _); rotate_left; · (first | exact Nat.le_refl _ | (simp; done) | (simp; omega) | omega)) | ((with_reducible refine Below.alloc ?_ ?_ _); rotate_left; · (first | exact Nat.le_refl _ | (simp; done) | (simp; omega) | omega)) | (with_reducible apply Below.drew) | (with_reducible apply below_drewN') | (refine Below.trans ?_ (Below.mono (by assumption) (by first | exact Nat.le_refl _ | (simp; done) | (simp; omega) | omega))) | exact Below.refl _ _ | assumption)) (by repeat (first | (with_reducible exact Below.refl _ _) | (with_reducible assumption) | ((with_reducible refine Below.setCell ?_ ?_ _); rotate_left; · (first | exact Nat.le_refl _ | (simp; done) | (simp; omega) | omega)) | ((with_reducible refine Below.alloc ?_ ?_ _); rotate_left; · (first | exact Nat.le_refl _ | (simp; done) | (simp; omega) | omega)) | (with_reducible apply Below.drew) | (with_reducible apply below_drewN') | (refine Below.trans ?_ (Below.mono (by assumption) (by first | exact Nat.le_refl _ | (simp; done) | (simp; omega) | omega))) | exact Below.refl _ _ | assumption))
      case ca11R16 => (first | (simp [Act.put]; done) | (simp [Act.put, *]; done))
      try dsimp only
      refine wpW_det (t' := ?ct12R16) 12 (by rfl) (by kernel_rfl) (NQ_free _) (by kernel_rfl) ?cw12R16 ?ch12R16 ?ca12R16 (Eq.refl _) ?cH12R16
      case cw12R16 => (go_simp; done)
      case ch12R16 =>
        intro ds w' hS K hK
        have hc := (bcell hS).1
        have hf := (bcell hS).2
        have hz := hS.size
        try simp at hz
        go_simp
        try go_bits
        first
          | exact hK _ hS (Gr.refl _)
          | exact hK _ (by repeat (first | (with_reducible exact Below.refl _ _) | (with_reducible assumption) | ((with_reducible refine Below.setCell ?_ ?_ _); rotate_left; · (first | exact Nat.le_refl _ | (simp; done) | (simp; omega) | omega)) | ((with_reducible refine Below.alloc ?_ ?_ _); rotate_left; · (first | exact Nat.le_refl _ | (simp; done) | (simp; omega) | omega)) | (with_reducible apply Below.drew) | (with_reducible apply below_drewN') | (refine Below.trans ?_ (Below.mono (by assumption) (by first | exact Nat.le_refl _ | (simp; done) | (simp; omega) | omega))) | exact Below.refl _ _ | assumption)) (by repeat (first | (with_reducible exact Below.refl _ _) | (with_reducible assumption) | ((with_reducible refine Below.setCell ?_ ?_ _); rotate_left; · (first | exact Nat.le_refl _ | (simp; done) | (simp; omega) | omega)) | ((with_reducible refine Below.alloc ?_ ?_ _); rotate_left; · (first | exact Nat.le_refl _ | (simp; done) | (simp; omega) | omega)) | (with_reducible apply Below.drew) | (with_reducible apply below_drewN') | (refine Below.trans ?_ (Below.mono (by assumption) (by first | exact Nat.le_refl _ | (simp; done) | (simp; omega) | omega))) | exact Below.refl _ _ | assumption))
      case ca12R16 => (first | (simp [Act.put]; done) | (simp [Act.put, *]; done))
      try dsimp only
      refine wpW_end (by kernel_rfl) ?_
      intro W7 hg hS
      unfold NQ
      dsimp only
      replace hv2 := own_below hv2 hg
      clear HRD HSC HOK hg
      obtain ⟨AR, cR, rfl, hR1, hR2, hRR⟩ := Row.ownd hv2
      have hB11 := hB10.trans (hS.mono hB10.size)
      have bm7 := bm6.below hS bm6.lt
      have bl7 := bl6.below hS bl6.lt
      have HV7 := Lib.hid (own_below HV6.out hS)
      have HX7 := Lib.hid (HX6.out.below hS (Nat.le_refl _))
      clear hS hB10 bm6 bl6 HV6 HX6 hv2
      have HCF := Lib.hid (hasRng (scanR s.tk (readsL st.sc)) AR cR po gl gv 0 7 _ (by decide) _ W7 (by omega) (by rw [← rngsC_rows]; exact hRR) (Nat.le_refl _) (bl7.cell 0) (by
        obtain ⟨g, o, hA, hg, hc⟩ := (own_row_ HV7.out).2 (by omega)
        cases hA
        simpa using hc 0 _ HNW.out))
      clear hRR hR1 hR2
      obtain ⟨fd, hfd⟩ : ∃ fd, ((scanR s.tk (readsL st.sc)).any fun r => wi po r.1 r.2) = fd := ⟨_, rfl⟩
      rw [hfd] at HE HCF
      clear hfd
      cases fd
      · replace HE := Lib.hid (HE.out.trans (if_pos rfl))
        go_wp2_with fail
        refine HCF.out.mono ?_
        rintro e W8 ⟨rfl, hB12⟩
        have HX8 := Lib.hid (HX7.out.below hB12 (Nat.le_refl _))
        have hB13 := hB11.trans (hB12.mono hB11.size)
        go_wp2
        go_ret
        exact ⟨⟨by rw [HE.out]; rfl, fun _ => HX8.out, fun e => by rw [HE.out] at e; cases e⟩, hB13.mono hbw⟩
      replace HE := Lib.hid (HE.out.trans (if_neg (by simp)))
      go_wp2_with fail
      refine HCF.out.mono ?_
      rintro e W8 ⟨rfl, hB12⟩
      have HX8 := Lib.hid (HX7.out.below hB12 (Nat.le_refl _))
      have hB13 := hB11.trans (hB12.mono hB11.size)
      have bm8 := bm7.below hB12 bm7.lt
      have bl8 := bl7.below hB12 bl7.lt
      have hv8 := own_below HV7.out hB12
      clear hB11 hB12 HCF bm7 bl7 HV7 HX7
      go_upto_region 20 with fail
      have hI : Isp s m B base bx a st W8.drew := HX8.out.below (C := W8.heap.size) ⟨rfl, rfl, rfl, Nat.le_refl _, fun _ _ => rfl⟩ (Nat.le_refl _)
      have hBb : Below base W8 W8.drew := ⟨rfl, rfl, rfl, Nat.le_refl _, fun _ _ => rfl⟩
      have hbs : base ≤ W8.drew.heap.size := Nat.le_trans hbw hB13.size
      have hle := hI.le; have hlo := hI.lo
      have HLIM : Hid (InLim { st with ms := st.ms ++ [⟨nm, bb, po, q, 0, 0, 0, ⟨#[]⟩⟩] }) := Lib.hid ⟨hI.lim.ev, hI.lim.sc, by simp; omega, hI.lim.pos⟩
      clear hlmi
      refine wp_region_w (fun w' => MkS q gm gl gv c' w.heap.size NN w') (by kernel_rfl) ((MkS.mk bm8.drew bl8.drew hv8)) ?_
      refine wpW_det (t' := ?ct0R17) 0 (by rfl) (by kernel_rfl) (NQ_free _) (by kernel_rfl) ?cw0R17 ?ch0R17 ?ca0R17 (Eq.refl _) ?cH0R17
      case cw0R17 => (go_simp; done)
      case ch0R17 =>
        intro ds w' hS K hK
        obtain ⟨m0, m1, m2, m3, m4, m5⟩ := blk6o hS.bm
        have lm := hS.bm.lt
        have l0 := hS.bl.cell 0
        have ll := hS.bl.lt
        have n0 := own_at hS.hv (by decide) HNW.out
        go_simp
        try go_bits
        exact hK _ hS (Gr.refl _)
      case ca0R17 => (first | (simp [Act.put]; done) | (simp [Act.put, *]; done))
      try dsimp only
      refine wpW_det (t' := ?ct1R17) 1 (by rfl) (by kernel_rfl) (NQ_free _) (by kernel_rfl) ?cw1R17 ?ch1R17 ?ca1R17 (Eq.refl _) ?cH1R17
      case cw1R17 => (go_simp; done)
      case ch1R17 =>
        intro ds w' hS K hK
        obtain ⟨m0, m1, m2, m3, m4, m5⟩ := blk6o hS.bm
        have lm := hS.bm.lt
        have l0 := hS.bl.cell 0
        have ll := hS.bl.lt
        have n0 := own_at hS.hv (by decide) HNW.out
        go_simp
        try go_bits
        exact hK _ hS (Gr.refl _)
      case ca1R17 => (first | (simp [Act.put]; done) | (simp [Act.put, *]; done))
      try dsimp only
      refine wpW_det (t' := ?ct2R17) 2 (by rfl) (by kernel_rfl) (NQ_free _) (by kernel_rfl) ?cw2R17 ?ch2R17 ?ca2R17 (Eq.refl _) ?cH2R17
      case cw2R17 => (go_simp; done)
      case ch2R17 =>
        intro ds w' hS K hK
        obtain ⟨m0, m1, m2, m3, m4, m5⟩ := blk6o hS.bm
        have lm := hS.bm.lt
        have l0 := hS.bl.cell 0
        have ll := hS.bl.lt
        have n0 := own_at hS.hv (by decide) HNW.out
        go_simp
        try go_bits
        exact hK _ hS (Gr.refl _)
      case ca2R17 => (first | (simp [Act.put]; done) | (simp [Act.put, *]; done))
      try dsimp only
      refine wpW_det (t' := ?ct3R17) 3 (by rfl) (by kernel_rfl) (NQ_free _) (by kernel_rfl) ?cw3R17 ?ch3R17 ?ca3R17 (Eq.refl _) ?cH3R17
      case cw3R17 => (go_simp; done)
      case ch3R17 =>
        intro ds w' hS K hK
        obtain ⟨m0, m1, m2, m3, m4, m5⟩ := blk6o hS.bm
        have lm := hS.bm.lt
        have l0 := hS.bl.cell 0
        have ll := hS.bl.lt
        have n0 := own_at hS.hv (by decide) HNW.out
        go_simp
        try go_bits
        exact hK _ hS (Gr.refl _)
      case ca3R17 => (first | (simp [Act.put]; done) | (simp [Act.put, *]; done))
      try dsimp only
      refine wpW_det (t' := ?ct4R17) 4 (by rfl) (by kernel_rfl) (NQ_free _) (by kernel_rfl) ?cw4R17 ?ch4R17 ?ca4R17 (Eq.refl _) ?cH4R17
      case cw4R17 => (go_simp; done)
      case ch4R17 =>
        intro ds w' hS K hK
        obtain ⟨m0, m1, m2, m3, m4, m5⟩ := blk6o hS.bm
        have lm := hS.bm.lt
        have l0 := hS.bl.cell 0
        have ll := hS.bl.lt
        have n0 := own_at hS.hv (by decide) HNW.out
        go_simp
        try go_bits
        exact hK _ hS (Gr.refl _)
      case ca4R17 => (first | (simp [Act.put]; done) | (simp [Act.put, *]; done))
      try dsimp only
      refine wpW_det (t' := ?ct6R17) 6 (by rfl) (by kernel_rfl) (NQ_free _) (by kernel_rfl) ?cw6R17 ?ch6R17 ?ca6R17 (Eq.refl _) ?cH6R17
      case cw6R17 => (go_simp; done)
      case ch6R17 =>
        intro ds w' hS K hK
        obtain ⟨m0, m1, m2, m3, m4, m5⟩ := blk6o hS.bm
        have lm := hS.bm.lt
        have l0 := hS.bl.cell 0
        have ll := hS.bl.lt
        have n0 := own_at hS.hv (by decide) HNW.out
        go_simp
        try go_bits
        exact hK _ hS (Gr.refl _)
      case ca6R17 => (first | (simp [Act.put]; done) | (simp [Act.put, *]; done))
      try dsimp only
      refine wpW_det (t' := ?ct7R17) 7 (by rfl) (by kernel_rfl) (NQ_free _) (by kernel_rfl) ?cw7R17 ?ch7R17 ?ca7R17 (Eq.refl _) ?cH7R17
      case cw7R17 => (go_simp; done)
      case ch7R17 =>
        intro ds w' hS K hK
        obtain ⟨m0, m1, m2, m3, m4, m5⟩ := blk6o hS.bm
        have lm := hS.bm.lt
        have l0 := hS.bl.cell 0
        have ll := hS.bl.lt
        have n0 := own_at hS.hv (by decide) HNW.out
        go_simp
        try go_bits
        exact hK _ hS (Gr.refl _)
      case ca7R17 => (first | (simp [Act.put]; done) | (simp [Act.put, *]; done))
      try dsimp only
      refine wpW_det (t' := ?ct8R17) 8 (by rfl) (by kernel_rfl) (NQ_free _) (by kernel_rfl) ?cw8R17 ?ch8R17 ?ca8R17 (Eq.refl _) ?cH8R17
      case cw8R17 => (go_simp; done)
      case ch8R17 =>
        intro ds w' hS K hK
        obtain ⟨m0, m1, m2, m3, m4, m5⟩ := blk6o hS.bm
        have lm := hS.bm.lt
        have l0 := hS.bl.cell 0
        have ll := hS.bl.lt
        have n0 := own_at hS.hv (by decide) HNW.out
        go_simp
        try go_bits
        exact hK _ hS (Gr.refl _)
      case ca8R17 => (first | (simp [Act.put]; done) | (simp [Act.put, *]; done))
      try dsimp only
      refine wpW_det (t' := ?ct9R17) 9 (by rfl) (by kernel_rfl) (NQ_free _) (by kernel_rfl) ?cw9R17 ?ch9R17 ?ca9R17 (Eq.refl _) ?cH9R17
      case cw9R17 => (go_simp; done)
      case ch9R17 =>
        intro ds w' hS K hK
        obtain ⟨m0, m1, m2, m3, m4, m5⟩ := blk6o hS.bm
        have lm := hS.bm.lt
        have l0 := hS.bl.cell 0
        have ll := hS.bl.lt
        have n0 := own_at hS.hv (by decide) HNW.out
        go_simp
        try go_bits
        exact hK _ hS (Gr.refl _)
      case ca9R17 => (first | (simp [Act.put]; done) | (simp [Act.put, *]; done))
      try dsimp only
      refine wpW_det (t' := ?ct10R17) 10 (by rfl) (by kernel_rfl) (NQ_free _) (by kernel_rfl) ?cw10R17 ?ch10R17 ?ca10R17 (Eq.refl _) ?cH10R17
      case cw10R17 => (go_simp; done)
      case ch10R17 =>
        intro ds w' hS K hK
        obtain ⟨m0, m1, m2, m3, m4, m5⟩ := blk6o hS.bm
        have lm := hS.bm.lt
        have l0 := hS.bl.cell 0
        have ll := hS.bl.lt
        have n0 := own_at hS.hv (by decide) HNW.out
        go_simp
        try go_bits
        exact hK _ hS (Gr.refl _)
      case ca10R17 => (first | (simp [Act.put]; done) | (simp [Act.put, *]; done))
      try dsimp only
      refine wpW_det (t' := ?ct11R17) 11 (by rfl) (by kernel_rfl) (NQ_free _) (by kernel_rfl) ?cw11R17 ?ch11R17 ?ca11R17 (Eq.refl _) ?cH11R17
      case cw11R17 => (go_simp; done)
      case ch11R17 =>
        intro ds w' hS K hK
        obtain ⟨m0, m1, m2, m3, m4, m5⟩ := blk6o hS.bm
        have lm := hS.bm.lt
        have l0 := hS.bl.cell 0
        have ll := hS.bl.lt
        have n0 := own_at hS.hv (by decide) HNW.out
        go_simp
        try go_bits
        exact hK _ hS (Gr.refl _)
      case ca11R17 => (first | (simp [Act.put]; done) | (simp [Act.put, *]; done))
      try dsimp only
      refine wpW_det (t' := ?ct12R17) 12 (by rfl) (by kernel_rfl) (NQ_free _) (by kernel_rfl) ?cw12R17 ?ch12R17 ?ca12R17 (Eq.refl _) ?cH12R17
      case cw12R17 => (go_simp; done)
      case ch12R17 =>
        intro ds w' hS K hK
        obtain ⟨m0, m1, m2, m3, m4, m5⟩ := blk6o hS.bm
        have lm := hS.bm.lt
        have l0 := hS.bl.cell 0
        have ll := hS.bl.lt
        have n0 := own_at hS.hv (by decide) HNW.out
        go_simp
        try go_bits
        exact hK _ hS (Gr.refl _)
      case ca12R17 => (first | (simp [Act.put]; done) | (simp [Act.put, *]; done))
      try dsimp only
      clear bm8 bl8 hv8
      refine wpW_branch [5, 13] (by kernel_rfl) (by simp) ?_
      intro w1 hg1 hS1
      try clear z
      have z := hS1
      replace hI := hI.below hg1 (Nat.le_refl _)
      replace hBb := Below.trans hBb (Below.mono hg1 hbs)
      replace hbs := Nat.le_trans hbs (Below.size hg1)
      obtain ⟨k0, k1, k2, k3, k4, k5, k6, k7, k8, k9, k10, k11, k12, k13, k14, k15, k16, kf⟩ := blk17 hI.blk
      have lb := hI.blk.lt
      clear k0 k1 k2 k3 k4 k5 k6 k7 k8 k9 k10 k11 k12 k13 k14 k16 kf
      refine each_cons ?_ (each_cons ?_ (each_nil))
      · refine wpOp_go (by rfl) (Eq.refl _) (by go_simp; done) ?_
        intro K hK
        go_simp
        try simp only [Act.put]
        refine hK _ _ z ?_
        clear hK K k15 lb
        refine wpW_branch [13] (by kernel_rfl) (by simp) ?_
        intro w2 hg2 hS2
        try clear z
        have z := hS2
        replace hI := hI.below hg2 (Nat.le_refl _)
        replace hBb := Below.trans hBb (Below.mono hg2 hbs)
        replace hbs := Nat.le_trans hbs (Below.size hg2)
        refine each_cons ?_ (each_nil)
        refine wpOp_go (by rfl) (Eq.refl _) (by go_simp; done) ?_
        intro K hK
        go_simp
        try simp only [Act.put]
        have bn := Blk.new w2 95 #[.string nm, .string bb, .int .i64 po, .int .i64 (q 0), .int .i64 (q 1), .int .i64 (q 2), .int .i64 (q 3), .int .i64 (q 4), .int .i64 (q 5), .int .i64 0, .int .i64 0, .int .i64 0, .string ⟨#[]⟩]
        have hal : Gr w2 (w2.alloc (.cells #[.string nm, .string bb, .int .i64 po, .int .i64 (q 0), .int .i64 (q 1), .int .i64 (q 2), .int .i64 (q 3), .int .i64 (q 4), .int .i64 (q 5), .int .i64 0, .int .i64 0, .int .i64 0, .string ⟨#[]⟩] 95)) := (Below.refl _ _).alloc (Nat.le_refl _) _
        replace z := z.gr hal
        replace hI := hI.below hal (Nat.le_refl _)
        replace hBb := Below.trans hBb (Below.mono hal hbs)
        replace hbs := Nat.le_trans hbs (Below.size hal)
        clear hal
        try clear k15 lb
        generalize w2.heap.size = g7 at *
        refine hK _ _ z ?_
        clear hK K
        refine wpW_branch [14] (by kernel_rfl) (by simp) ?_
        intro w3 hg3 hS3
        try clear z
        have z := hS3
        replace hI := hI.below hg3 (Nat.le_refl _)
        replace hBb := Below.trans hBb (Below.mono hg3 hbs)
        replace hbs := Nat.le_trans hbs (Below.size hg3)
        replace bn := Blk.gr bn hg3
        refine each_cons ?_ (each_nil)
        refine wpOp_go (by rfl) (Eq.refl _) (by go_simp; done) ?_
        intro K hK
        have hsr : Src w3 13 (some ⟨g7, 0, none⟩) 1 1 [.string nm, .string bb, .int .i64 po, .int .i64 (q 0), .int .i64 (q 1), .int .i64 (q 2), .int .i64 (q 3), .int .i64 (q 4), .int .i64 (q 5), .int .i64 0, .int .i64 0, .int .i64 0, .string ⟨#[]⟩] := Src.mk (B := w3.heap.size) ⟨rfl, fun _ => ⟨g7, 0, rfl, bn.lt, fun j u hu => by rw [Nat.zero_add, bn.cell j, List.getElem?_toArray]; exact hu⟩⟩ (fun e => by cases e)
        refine wp_append_row _ (.tmp 87) (.tmp 95) 42 rfl base 95 i0 _ 13 128 Tryz.underlying42 hi hz0 hz1 hz2 rfl (by decide) _ st.ms.length (rowsC mkF st.ms) rfl hI.ms (some ⟨g7, 0, none⟩) 1 1 [.string nm, .string bb, .int .i64 po, .int .i64 (q 0), .int .i64 (q 1), .int .i64 (q 2), .int .i64 (q 3), .int .i64 (q 4), .int .i64 (q 5), .int .i64 0, .int .i64 0, .int .i64 0, .string ⟨#[]⟩] rfl hsr (by simp [Value.oneCell']) (by unfold maxLen; omega) (by omega) hbs ?_
        intro v9 wa hv9 hgrow _
        replace z := z.grown hI.ms hgrow
        obtain ⟨A9, c9, e9, _, _, _⟩ := Row.ownd hv9
        subst e9
        have hQ := hI.msGrow (n := st.ms.length + 1) (l := st.ms ++ [⟨nm, bb, po, q, 0, 0, 0, ⟨#[]⟩⟩]) (by rw [rowsC_snoc1]; exact hv9) hgrow
        replace hBb : Below base W8 wa := hBb.grown hgrow hbs (fun r e => (hI.ms.lt r e).1)
        replace hbs := Nat.le_trans hbs hgrow.size
        clear hgrow hsr bn hv9 hI
        try simp only [Act.put]
        try simp only [List.setIfInBounds_toArray]
        refine hK _ _ z ?_
        clear hK K
        refine wpW_branch [15] (by kernel_rfl) (by simp) ?_
        intro w4 hg4 hS4
        try clear z
        have z := hS4
        replace hQ := hQ.below hg4 (Nat.le_refl _)
        replace hBb := Below.trans hBb (Below.mono hg4 hbs)
        replace hbs := Nat.le_trans hbs (Below.size hg4)
        obtain ⟨k0, k1, k2, k3, k4, k5, k6, k7, k8, k9, k10, k11, k12, k13, k14, k15, k16, kf⟩ := blk17 hQ.blk
        have lb := hQ.blk.lt
        clear k0 k1 k2 k3 k4 k5 k6 k7 k8 k9 k10 k11 k12 k13 k14 k16
        refine each_cons ?_ (each_nil)
        refine wpOp_go (by rfl) (Eq.refl _) (by go_simp; done) ?_
        intro K hK
        go_simp
        try simp only [Act.put]
        refine hK _ _ z ?_
        clear hK K k15 lb kf
        refine wpW_branch [16] (by kernel_rfl) (by simp) ?_
        intro w5 hg5 hS5
        try clear z
        have z := hS5
        replace hQ := hQ.below hg5 (Nat.le_refl _)
        replace hBb := Below.trans hBb (Below.mono hg5 hbs)
        replace hbs := Nat.le_trans hbs (Below.size hg5)
        obtain ⟨k0, k1, k2, k3, k4, k5, k6, k7, k8, k9, k10, k11, k12, k13, k14, k15, k16, kf⟩ := blk17 hQ.blk
        have lb := hQ.blk.lt
        clear k0 k1 k2 k3 k4 k5 k6 k7 k8 k9 k10 k11 k12 k13 k14 k16
        refine each_cons ?_ (each_nil)
        refine wpOp_go (by rfl) (Eq.refl _) (by go_simp; done) ?_
        intro K hK
        go_simp
        try simp only [Act.put]
        refine hK _ _ z ?_
        clear hK K k15 lb kf
        refine wpW_branch [17] (by kernel_rfl) (by simp) ?_
        intro w6 hg6 hS6
        try clear z
        have z := hS6
        replace hQ := hQ.below hg6 (Nat.le_refl _)
        replace hBb := Below.trans hBb (Below.mono hg6 hbs)
        replace hbs := Nat.le_trans hbs (Below.size hg6)
        obtain ⟨k0, k1, k2, k3, k4, k5, k6, k7, k8, k9, k10, k11, k12, k13, k14, k15, k16, kf⟩ := blk17 hQ.blk
        have lb := hQ.blk.lt
        clear k0 k1 k2 k3 k4 k5 k6 k7 k8 k9 k10 k11 k12 k13 k14 k16
        refine each_cons ?_ (each_nil)
        refine wpOp_go (by rfl) (Eq.refl _) (by go_simp; done) ?_
        intro K hK
        go_simp
        try simp only [Act.put]
        refine hK _ _ z ?_
        clear hK K k15 lb kf
        refine wpW_branch [18] (by kernel_rfl) (by simp) ?_
        intro w7 hg7 hS7
        try clear z
        have z := hS7
        replace hQ := hQ.below hg7 (Nat.le_refl _)
        replace hBb := Below.trans hBb (Below.mono hg7 hbs)
        replace hbs := Nat.le_trans hbs (Below.size hg7)
        obtain ⟨k0, k1, k2, k3, k4, k5, k6, k7, k8, k9, k10, k11, k12, k13, k14, k15, k16, kf⟩ := blk17 hQ.blk
        have lb := hQ.blk.lt
        clear k0 k1 k2 k3 k4 k5 k6 k7 k8 k9 k10 k11 k12 k13 k14 k16
        refine each_cons ?_ (each_nil)
        refine wpOp_go (by rfl) (Eq.refl _) (by go_simp; done) ?_
        intro K hK
        go_simp
        try simp only [Act.put]
        have hF := hQ.store (by simp) hle hlo HLIM.out
        replace hBb := hBb.setCell (p := ⟨bx, 15, none⟩) hlo (.slice A9 (st.ms.length + 1) c9)
        replace z := z.far hQ.blk 15 (.slice A9 (st.ms.length + 1) c9)
        refine hK _ _ z ?_
        clear hK K k15 lb kf hQ
        refine wpW_end (by kernel_rfl) ?_
        intro we hg hS
        unfold NQ
        dsimp only
        have hF2 := hF.below hg (Nat.le_refl _)
        have hBe := (hB13.mono hbw).trans (hBb.trans (hg.mono (by have := hF.blk.lt; omega)))
        go_wp2
        go_ret
        exact ⟨⟨by rw [HE.out]; rfl, fun e => absurd HE.out e, fun _ => ⟨_, by rw [HST.out]; exact hF2⟩⟩, hBe⟩
      · refine wpOp_go (by rfl) (Eq.refl _) (by go_simp; done) ?_
        intro K hK
        go_simp
        try simp only [Act.put]
        have bn := Blk.new w1 95 #[.string nm, .string bb, .int .i64 po, .int .i64 (q 0), .int .i64 (q 1), .int .i64 (q 2), .int .i64 (q 3), .int .i64 (q 4), .int .i64 (q 5), .int .i64 0, .int .i64 0, .int .i64 0, .string ⟨#[]⟩]
        have hal : Gr w1 (w1.alloc (.cells #[.string nm, .string bb, .int .i64 po, .int .i64 (q 0), .int .i64 (q 1), .int .i64 (q 2), .int .i64 (q 3), .int .i64 (q 4), .int .i64 (q 5), .int .i64 0, .int .i64 0, .int .i64 0, .string ⟨#[]⟩] 95)) := (Below.refl _ _).alloc (Nat.le_refl _) _
        replace z := z.gr hal
        replace hI := hI.below hal (Nat.le_refl _)
        replace hBb := Below.trans hBb (Below.mono hal hbs)
        replace hbs := Nat.le_trans hbs (Below.size hal)
        clear hal
        try clear k15 lb
        generalize w1.heap.size = g7 at *
        refine hK _ _ z ?_
        clear hK K
        refine wpW_branch [5] (by kernel_rfl) (by simp) ?_
        intro w2 hg2 hS2
        try clear z
        have z := hS2
        replace hI := hI.below hg2 (Nat.le_refl _)
        replace hBb := Below.trans hBb (Below.mono hg2 hbs)
        replace hbs := Nat.le_trans hbs (Below.size hg2)
        replace bn := Blk.gr bn hg2
        obtain ⟨k0, k1, k2, k3, k4, k5, k6, k7, k8, k9, k10, k11, k12, k13, k14, k15, k16, kf⟩ := blk17 hI.blk
        have lb := hI.blk.lt
        clear k0 k1 k2 k3 k4 k5 k6 k7 k8 k9 k10 k11 k12 k13 k14 k16 kf
        refine each_cons ?_ (each_nil)
        refine wpOp_go (by rfl) (Eq.refl _) (by go_simp; done) ?_
        intro K hK
        go_simp
        try simp only [Act.put]
        refine hK _ _ z ?_
        clear hK K k15 lb
        refine wpW_branch [14] (by kernel_rfl) (by simp) ?_
        intro w3 hg3 hS3
        try clear z
        have z := hS3
        replace hI := hI.below hg3 (Nat.le_refl _)
        replace hBb := Below.trans hBb (Below.mono hg3 hbs)
        replace hbs := Nat.le_trans hbs (Below.size hg3)
        replace bn := Blk.gr bn hg3
        refine each_cons ?_ (each_nil)
        refine wpOp_go (by rfl) (Eq.refl _) (by go_simp; done) ?_
        intro K hK
        have hsr : Src w3 13 (some ⟨g7, 0, none⟩) 1 1 [.string nm, .string bb, .int .i64 po, .int .i64 (q 0), .int .i64 (q 1), .int .i64 (q 2), .int .i64 (q 3), .int .i64 (q 4), .int .i64 (q 5), .int .i64 0, .int .i64 0, .int .i64 0, .string ⟨#[]⟩] := Src.mk (B := w3.heap.size) ⟨rfl, fun _ => ⟨g7, 0, rfl, bn.lt, fun j u hu => by rw [Nat.zero_add, bn.cell j, List.getElem?_toArray]; exact hu⟩⟩ (fun e => by cases e)
        refine wp_append_row _ (.tmp 87) (.tmp 95) 42 rfl base 95 i0 _ 13 128 Tryz.underlying42 hi hz0 hz1 hz2 rfl (by decide) _ st.ms.length (rowsC mkF st.ms) rfl hI.ms (some ⟨g7, 0, none⟩) 1 1 [.string nm, .string bb, .int .i64 po, .int .i64 (q 0), .int .i64 (q 1), .int .i64 (q 2), .int .i64 (q 3), .int .i64 (q 4), .int .i64 (q 5), .int .i64 0, .int .i64 0, .int .i64 0, .string ⟨#[]⟩] rfl hsr (by simp [Value.oneCell']) (by unfold maxLen; omega) (by omega) hbs ?_
        intro v9 wa hv9 hgrow _
        replace z := z.grown hI.ms hgrow
        obtain ⟨A9, c9, e9, _, _, _⟩ := Row.ownd hv9
        subst e9
        have hQ := hI.msGrow (n := st.ms.length + 1) (l := st.ms ++ [⟨nm, bb, po, q, 0, 0, 0, ⟨#[]⟩⟩]) (by rw [rowsC_snoc1]; exact hv9) hgrow
        replace hBb : Below base W8 wa := hBb.grown hgrow hbs (fun r e => (hI.ms.lt r e).1)
        replace hbs := Nat.le_trans hbs hgrow.size
        clear hgrow hsr bn hv9 hI
        try simp only [Act.put]
        try simp only [List.setIfInBounds_toArray]
        refine hK _ _ z ?_
        clear hK K
        refine wpW_branch [15] (by kernel_rfl) (by simp) ?_
        intro w4 hg4 hS4
        try clear z
        have z := hS4
        replace hQ := hQ.below hg4 (Nat.le_refl _)
        replace hBb := Below.trans hBb (Below.mono hg4 hbs)
        replace hbs := Nat.le_trans hbs (Below.size hg4)
        obtain ⟨k0, k1, k2, k3, k4, k5, k6, k7, k8, k9, k10, k11, k12, k13, k14, k15, k16, kf⟩ := blk17 hQ.blk
        have lb := hQ.blk.lt
        clear k0 k1 k2 k3 k4 k5 k6 k7 k8 k9 k10 k11 k12 k13 k14 k16
        refine each_cons ?_ (each_nil)
        refine wpOp_go (by rfl) (Eq.refl _) (by go_simp; done) ?_
        intro K hK
        go_simp
        try simp only [Act.put]
        refine hK _ _ z ?_
        clear hK K k15 lb kf
        refine wpW_branch [16] (by kernel_rfl) (by simp) ?_
        intro w5 hg5 hS5
        try clear z
        have z := hS5
        replace hQ := hQ.below hg5 (Nat.le_refl _)
        replace hBb := Below.trans hBb (Below.mono hg5 hbs)
        replace hbs := Nat.le_trans hbs (Below.size hg5)
        obtain ⟨k0, k1, k2, k3, k4, k5, k6, k7, k8, k9, k10, k11, k12, k13, k14, k15, k16, kf⟩ := blk17 hQ.blk
        have lb := hQ.blk.lt
        clear k0 k1 k2 k3 k4 k5 k6 k7 k8 k9 k10 k11 k12 k13 k14 k16
        refine each_cons ?_ (each_nil)
        refine wpOp_go (by rfl) (Eq.refl _) (by go_simp; done) ?_
        intro K hK
        go_simp
        try simp only [Act.put]
        refine hK _ _ z ?_
        clear hK K k15 lb kf
        refine wpW_branch [17] (by kernel_rfl) (by simp) ?_
        intro w6 hg6 hS6
        try clear z
        have z := hS6
        replace hQ := hQ.below hg6 (Nat.le_refl _)
        replace hBb := Below.trans hBb (Below.mono hg6 hbs)
        replace hbs := Nat.le_trans hbs (Below.size hg6)
        obtain ⟨k0, k1, k2, k3, k4, k5, k6, k7, k8, k9, k10, k11, k12, k13, k14, k15, k16, kf⟩ := blk17 hQ.blk
        have lb := hQ.blk.lt
        clear k0 k1 k2 k3 k4 k5 k6 k7 k8 k9 k10 k11 k12 k13 k14 k16
        refine each_cons ?_ (each_nil)
        refine wpOp_go (by rfl) (Eq.refl _) (by go_simp; done) ?_
        intro K hK
        go_simp
        try simp only [Act.put]
        refine hK _ _ z ?_
        clear hK K k15 lb kf
        refine wpW_branch [18] (by kernel_rfl) (by simp) ?_
        intro w7 hg7 hS7
        try clear z
        have z := hS7
        replace hQ := hQ.below hg7 (Nat.le_refl _)
        replace hBb := Below.trans hBb (Below.mono hg7 hbs)
        replace hbs := Nat.le_trans hbs (Below.size hg7)
        obtain ⟨k0, k1, k2, k3, k4, k5, k6, k7, k8, k9, k10, k11, k12, k13, k14, k15, k16, kf⟩ := blk17 hQ.blk
        have lb := hQ.blk.lt
        clear k0 k1 k2 k3 k4 k5 k6 k7 k8 k9 k10 k11 k12 k13 k14 k16
        refine each_cons ?_ (each_nil)
        refine wpOp_go (by rfl) (Eq.refl _) (by go_simp; done) ?_
        intro K hK
        go_simp
        try simp only [Act.put]
        have hF := hQ.store (by simp) hle hlo HLIM.out
        replace hBb := hBb.setCell (p := ⟨bx, 15, none⟩) hlo (.slice A9 (st.ms.length + 1) c9)
        replace z := z.far hQ.blk 15 (.slice A9 (st.ms.length + 1) c9)
        refine hK _ _ z ?_
        clear hK K k15 lb kf hQ
        refine wpW_end (by kernel_rfl) ?_
        intro we hg hS
        unfold NQ
        dsimp only
        have hF2 := hF.below hg (Nat.le_refl _)
        have hBe := (hB13.mono hbw).trans (hBb.trans (hg.mono (by have := hF.blk.lt; omega)))
        go_wp2
        go_ret
        exact ⟨⟨by rw [HE.out]; rfl, fun e => absurd HE.out e, fun _ => ⟨_, by rw [HST.out]; exact hF2⟩⟩, hBe⟩
    · replace HE := Lib.hid (HE.out.trans (if_pos hq1))
      have hq2 : (q 1 != s.thick) = true := by simpa using hq1
      clear hq1
      refine wp_region_b 9 (by kernel_rfl) (by kernel_rfl) ?_; simp only [List.take, List.drop]
      repeat (first
        | (apply StepsD.run
           · go_simp
             done
           · intro w' hS K hK
             have hc := (bcell hS).1
             have hf := (bcell hS).2
             have hz := hS.size
             try simp at hz
             go_simp
             try go_bits
             first
               | exact hK _ hS
               | fail
               | exact hK _ (by repeat (first | (with_reducible exact Below.refl _ _) | (with_reducible assumption) | ((with_reducible refine Below.setCell ?_ ?_ _); rotate_left; · (first | exact Nat.le_refl _ | (simp; done) | (simp; omega) | omega)) | ((with_reducible refine Below.alloc ?_ ?_ _); rotate_left; · (first | exact Nat.le_refl _ | (simp; done) | (simp; omega) | omega)) | (with_reducible apply Below.drew) | (with_reducible apply below_drewN') | (refine Below.trans ?_ (Below.mono (by assumption) (by first | exact Nat.le_refl _ | (simp; done) | (simp; omega) | omega))) | exact Below.refl _ _ | assumption))
           · simp [Act.put]
             done)
        | (apply StepsD.pass
           · first | (go_simp; done) | rfl
           · simp only [Act.put, List.setIfInBounds_toArray, List.set_cons_succ, List.set_cons_zero]
             rfl))
      intro W6 hS6
      have hB10 := hB9.trans (hS6.mono hB9.size)
      have HX6 := Lib.hid (HX5.out.below hS6 (Nat.le_refl _))
      go_wp2
      go_ret
      exact ⟨⟨by rw [HE.out]; rfl, fun _ => HX6.out, fun e => by rw [HE.out] at e; cases e⟩, hB10.mono hbw⟩
  · rw [pmV_bad hp]
    replace HE := Lib.hid (HE.out.trans (if_pos hp))
    have h1 : (pmE jt != 0) = true := by simpa using hp
    have hB9 := hB8.alloc hB8.size (.cells #[.int .i64 0, .int .i64 0, .int .i64 0, .int .i64 0, .int .i64 0, .int .i64 0] 93 (0, 0))
    have HX := Lib.hid (HI.out.below hB9 (Nat.le_refl _))
    have HP := Lib.hid hp; clear hp
    go_wp2
    go_ret
    exact ⟨⟨by rw [HE.out]; rfl, fun _ => HX.out, fun e => absurd (HE.out.symm.trans e) HP.out⟩, hB9.mono hbw⟩
end Go.Proofs.YtmdbpkomanhpoaaGreatDoor
