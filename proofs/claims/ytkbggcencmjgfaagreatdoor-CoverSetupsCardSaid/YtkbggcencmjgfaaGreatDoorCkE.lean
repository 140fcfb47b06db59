/- Contract: the set-up with a text by the reference (ParseSetup). -/
import Derived.Test.YtkbggcencmjgfaaGreatDoorCkD
namespace Go.Proofs.YtkbggcencmjgfaaGreatDoor
open Go.RowKit Go.Lib

theorem infoIntK : (Tryz.prog.info? 3).map (fun i => (i.zero, i.size, i.bytes)) = some (some (.int .i64 0), 1, 8) := by kernel_rfl
theorem intsL_succ (l : List Int) (x : Int) : intsL (l ++ [x]) = intsL l ++ [.int .i64 x] := by simp [intsL]
theorem suN_of {ns : List Int} (h : ns.length = 9) : suN (suOf ns) = ns := by
  match ns, h with
  | [_, _, _, _, _, _, _, _, _], _ => rfl
set_option maxRecDepth 100000 in
set_option maxHeartbeats 8000000 in
theorem rParseSetup_any (s : ByteArray) (hs : s.size ≤ 1000) (w : World) : Calls Tryz.prog 8 #[.string s] w fun e w' => e = .returned (.tuple #[.agg (suC (suP s).1.1 (suP s).1.2), .int .i64 (suP s).2]) ∧ Below w.heap.size w w' := by
  obtain ⟨hn0, hnm⟩ := nmOf_at s
  have hnms := nmOf_size s
  have HLEN : Hid (∀ h : (cutL 32 s.data.toList).length ≠ 10, suP s = ((⟨#[]⟩, suZ), 7)) := Lib.hid fun h => suP_len h
  have HLINE : Hid (∀ h : (10 : UInt8) ∈ (nmOf s).data.toList, suP s = ((⟨#[]⟩, suZ), 7)) := Lib.hid fun h => suP_line h
  obtain ⟨q, hq⟩ : ∃ q, suP s = q := ⟨_, rfl⟩
  rw [hq] at HLEN HLINE ⊢
  have HQ := Lib.hid hq; clear hq
  have HN := Lib.hid hnm; clear hnm
  have hwl := cutB_len s 32
  have HWL := Lib.hid hwl
  rw [← hwl] at hn0
  clear hwl
  have b0 := Blk.new w 25 (suC ⟨#[]⟩ suZ)
  have hB0 : Below w.heap.size w (w.alloc (.cells (suC ⟨#[]⟩ suZ) 25)) := (by repeat (first | (with_reducible exact Below.refl _ _) | (with_reducible assumption) | ((with_reducible refine Below.setCell ?_ ?_ _); rotate_left; · (first | exact Nat.le_refl _ | (simp; done) | (simp; omega) | omega)) | ((with_reducible refine Below.alloc ?_ ?_ _); rotate_left; · (first | exact Nat.le_refl _ | (simp; done) | (simp; omega) | omega)) | (with_reducible apply Below.drew) | (with_reducible apply below_drewN') | (refine Below.trans ?_ (Below.mono (by assumption) (by first | exact Nat.le_refl _ | (simp; done) | (simp; omega) | omega))) | exact Below.refl _ _ | assumption))
  obtain ⟨i0, hi0, hz0, hz1, hz2⟩ := info_parts infoIntK
  go_enter Tryz.func8, Tryz.ntmps8
  go_wp2_with fail
  refine (bCut_any s 32 (by omega) _).mono ?_
  rintro e w1 ⟨v1, rfl, own1, hB1⟩
  have lt0 := b0.lt
  replace b0 := b0.below hB1 lt0
  have hBB : Below w.heap.size w w1 := hB0.trans (hB1.mono (by simp))
  obtain ⟨g1, cap1, rfl⟩ := own_slice own1 hn0
  have HO1 := Lib.hid own1
  obtain ⟨n0, lt1, hg1⟩ := own_strs_at own1 hn0
  simp only [World.size_alloc] at hg1
  have n0' : w1.cell? ⟨g1, 0, none⟩ = some (.string (nmOf s)) := by
    rw [n0, ← HN.out]
    simp [cutB_eq]
  clear n0 own1 hB1 hB0
  replace lt0 := b0.lt
  by_cases h6 : (cutB 32 s).length = 10
  · have h6' : (((cutB 32 s).length : Int) != 10) = false := by rw [h6]; rfl
    have h6L : (cutL 32 s.data.toList).length = 10 := by rw [← HWL.out]; exact h6
    have H6L := Lib.hid h6L; clear h6L
    -- the name's bytes
    go_wp2
    go_loopw [5] (fun s5 wr => ∃ i : Nat, s5 = .int .i64 i ∧ i ≤ (nmOf s).size ∧ Hid (∀ j (h : j < (nmOf s).size), j < i → (nmOf s)[j] ≠ 10) ∧ w1 = wr) (fun s5 _ => (nmOf s).size - (RowKit.intOf s5).toNat)
    case atStart => exact ⟨0, rfl, Nat.zero_le _, Lib.hid (fun j _ hj => absurd hj (by omega)), rfl⟩
    case round =>
      obtain ⟨i, rfl, hi, HI, rfl⟩ := hrel
      by_cases hlt : i < (nmOf s).size
      · have hcb : (nmOf s)[i].toNat < 256 := (nmOf s)[i].toNat_lt
        by_cases hc : (nmOf s)[i] = 10
        · have HE := Lib.hid (HLINE.out (by
            have : (nmOf s)[i] ∈ (nmOf s).data.toList := List.mem_of_getElem? (i := i) (by rw [List.getElem?_eq_getElem (by rw [size_list]; exact hlt)]; rfl)
            rwa [hc] at this))
          have hc1 : (((nmOf s)[i].toNat : Int) == 10) = true := by rw [hc]; rfl
          clear hc
          have f0 := b0.frozen
          obtain ⟨c0, c1, c2, c3, c4, c5, c6, c7, c8, c9, _⟩ := blkX b0
          go_wp2
          have z0 := blk_putX b0 (.string ⟨#[]⟩) (.int .i64 0) (.int .i64 0) (.int .i64 0) (.int .i64 0) (.int .i64 0) (.int .i64 0) (.int .i64 0) (.int .i64 0) (.int .i64 0)
          obtain ⟨u0, u1, u2, u3, u4, u5, u6, u7, u8, u9, _⟩ := blkX z0
          have below_ := setX_below hBB (g := w.heap.size) (Nat.le_refl _) (.string ⟨#[]⟩) (.int .i64 0) (.int .i64 0) (.int .i64 0) (.int .i64 0) (.int .i64 0) (.int .i64 0) (.int .i64 0) (.int .i64 0) (.int .i64 0)
          exact bodyPost_ret (v := .tuple #[.agg #[.string ⟨#[]⟩, .int .i64 0, .int .i64 0, .int .i64 0, .int .i64 0, .int .i64 0, .int .i64 0, .int .i64 0, .int .i64 0, .int .i64 0], .int .i64 7]) (by simp [results, Tryz.results8, go_sem, u0, u1, u2, u3, u4, u5, u6, u7, u8, u9]) rfl ⟨by rw [HE.out]; rfl, by first | exact below_ | exact below_.drew | exact (by repeat (first | (with_reducible exact Below.refl _ _) | (with_reducible assumption) | ((with_reducible refine Below.setCell ?_ ?_ _); rotate_left; · (first | exact Nat.le_refl _ | (simp; done) | (simp; omega) | omega)) | ((with_reducible refine Below.alloc ?_ ?_ _); rotate_left; · (first | exact Nat.le_refl _ | (simp; done) | (simp; omega) | omega)) | (with_reducible apply Below.drew) | (with_reducible apply below_drewN') | (refine Below.trans ?_ (Below.mono (by assumption) (by first | exact Nat.le_refl _ | (simp; done) | (simp; omega) | omega))) | exact Below.refl _ _ | assumption))⟩
        · have HI2 : Hid (∀ j (h : j < (nmOf s).size), j < i + 1 → (nmOf s)[j] ≠ 10) := Lib.hid fun j hj hji => by
            by_cases e : j = i
            · subst e; exact hc
            · exact HI.out j hj (by omega)
          have hc1 : (((nmOf s)[i].toNat : Int) == 10) = false := by
            rw [beq_eq_false_iff_ne]
            intro e
            exact hc (UInt8.toNat_inj.1 (by show (nmOf s)[i].toNat = 10; omega))
          clear hc
          go_wp2
          exact ⟨⟨i + 1, by go_num, by omega, HI2, by first | trivial | rfl⟩, by simp [RowKit.intOf]; omega⟩
      · obtain rfl : i = (nmOf s).size := by omega
        have HNL : Hid ((10 : UInt8) ∉ (nmOf s).data.toList) := Lib.hid fun hm => by
          obtain ⟨j, hj, e⟩ := List.getElem_of_mem hm
          have hj' : j < (nmOf s).size := by rw [size_list] at hj; exact hj
          exact HI.out j hj' hj' e
        have hO1 := HO1.out
        clear HI
        go_wp2
        have HG1 := Lib.hid lt1
        clear n0' lt1
        go_loopw [6, 7] (fun s6 s7 wr => ∃ (k : Nat) (ns : List Int) (v : Value), s6 = v ∧ s7 = .int .i64 (k + 1 : Nat) ∧ k ≤ 9 ∧ Hid (ParS s k ns) ∧ wr.ownsRow w1.heap.size 3 1 v ns.length (intsL ns) ∧ Blk wr w.heap.size 25 (suC ⟨#[]⟩ suZ) ∧ wr.ownsRow (w.heap.size + 1) 9 1 (.slice (some ⟨g1, 0, none⟩) (cutB 32 s).length cap1) (cutB 32 s).length (strsC (cutB 32 s)) ∧ Below w1.heap.size w1 wr) (fun _ s7 _ => 10 - (RowKit.intOf s7).toNat)
        case atStart => exact ⟨0, [], _, rfl, rfl, by omega, Lib.hid (ParS.start s), World.ownsRow_nil _ _ _ _, b0, by simpa using hO1, Below.refl _ _⟩
        case round =>
          clear b0 hO1
          obtain ⟨k, ns, v6, rfl, rfl, hk, HP, own6, b0, own, hB⟩ := hrel
          have hzw := Below.size hB
          have hBB2 := hBB.trans (hB.mono (Below.size hBB))
          have HOW := Lib.hid own
          have hns := HP.out.1
          have HNS := Lib.hid hns
          by_cases hlt : k < 9
          · have hlI : ((k + 1 : Nat) : Int) < 10 := by omega
            have hkl : k + 1 < (cutL 32 s.data.toList).length := by rw [H6L.out]; omega
            have hkb : k + 1 < (cutB 32 s).length := by omega
            obtain ⟨cx, lt1, _⟩ := own_strs_at own hkb
            have ex : (cutB 32 s)[k + 1] = strB (cutL 32 s.data.toList)[k + 1] := by simp [cutB_eq]
            rw [ex] at cx
            have HX0 : Hid (numL 9 (cutL 32 s.data.toList)[k + 1] = none → q = ((⟨#[]⟩, suZ), 7)) := Lib.hid fun h => by rw [← HQ.out]; exact suP_bad hkl h
            have HX1 : Hid (∀ v, numL 9 (cutL 32 s.data.toList)[k + 1] = some v → ParS s (k + 1) (ns ++ [v])) := Lib.hid fun v h => HP.out.next hkl h
            have hxs : (cutL 32 s.data.toList)[k + 1].length ≤ 1000 := Nat.le_trans (cutL_size 32 _ _ (List.getElem_mem hkl)) (by rw [size_list]; exact hs)
            clear ex own hns
            generalize (cutL 32 s.data.toList)[k + 1] = x at *
            have hxb : (strB x).size ≤ 1000000 := by rw [strB_size]; omega
            have hnb := number_any (strB x) 9 (by decide) hxb
            rw [strB_data] at hnb
            cases hnum : numL 9 x with
            | none =>
              rw [hnum] at hnb
              have HE := Lib.hid (HX0.out hnum)
              have HNB := Lib.hid hnb
              clear hnb hnum HX0 HX1 own6
              have f0 := b0.frozen
              obtain ⟨c0, c1, c2, c3, c4, c5, c6, c7, c8, c9, _⟩ := blkX b0
              have lt0 := b0.lt
              go_wp2_with (go_at_call 36; refine (HNB.out _).mono ?_; rintro e w4 ⟨rfl, rfl⟩; unfold numO)
              have z0 := blk_putX b0 (.string ⟨#[]⟩) (.int .i64 0) (.int .i64 0) (.int .i64 0) (.int .i64 0) (.int .i64 0) (.int .i64 0) (.int .i64 0) (.int .i64 0) (.int .i64 0)
              obtain ⟨u0, u1, u2, u3, u4, u5, u6, u7, u8, u9, _⟩ := blkX z0
              have below_ := setX_below hBB2 (g := w.heap.size) (Nat.le_refl _) (.string ⟨#[]⟩) (.int .i64 0) (.int .i64 0) (.int .i64 0) (.int .i64 0) (.int .i64 0) (.int .i64 0) (.int .i64 0) (.int .i64 0) (.int .i64 0)
              exact bodyPost_ret (v := .tuple #[.agg #[.string ⟨#[]⟩, .int .i64 0, .int .i64 0, .int .i64 0, .int .i64 0, .int .i64 0, .int .i64 0, .int .i64 0, .int .i64 0, .int .i64 0], .int .i64 7]) (by simp [results, Tryz.results8, go_sem, u0, u1, u2, u3, u4, u5, u6, u7, u8, u9]) rfl ⟨by rw [HE.out]; rfl, by first | exact below_ | exact below_.drew | exact (by repeat (first | (with_reducible exact Below.refl _ _) | (with_reducible assumption) | ((with_reducible refine Below.setCell ?_ ?_ _); rotate_left; · (first | exact Nat.le_refl _ | (simp; done) | (simp; omega) | omega)) | ((with_reducible refine Below.alloc ?_ ?_ _); rotate_left; · (first | exact Nat.le_refl _ | (simp; done) | (simp; omega) | omega)) | (with_reducible apply Below.drew) | (with_reducible apply below_drewN') | (refine Below.trans ?_ (Below.mono (by assumption) (by first | exact Nat.le_refl _ | (simp; done) | (simp; omega) | omega))) | exact Below.refl _ _ | assumption))⟩
            | some v =>
              rw [hnum] at hnb
              have HN2 := Lib.hid (HX1.out v hnum)
              have HNB := Lib.hid hnb
              clear hnb hnum HX0 HX1
              have hOo := own6.alloc (.cells #[.int .i64 v] 3)
              have hBo := hB.alloc hzw (.cells #[.int .i64 v] 3)
              have HB0 := Lib.hid (b0.alloc (.cells #[.int .i64 v] 3))
              have HO2 := Lib.hid (HOW.out.alloc (.cells #[.int .i64 v] 3))
              have HI1 : Hid (intsL (ns ++ [v]) = intsL ns ++ [.int .i64 v] ∧ (ns ++ [v]).length = ns.length + 1) := Lib.hid ⟨intsL_succ ns v, by simp⟩
              clear b0
              go_wp2_with (first
                | (go_at_call 36; refine (HNB.out _).mono ?_; rintro e w4 ⟨rfl, rfl⟩; unfold numO)
                | (at_builtin; refine wpList_append_own _ rfl _ _ 71 rfl w1.heap.size 3 i0 _ 1 8 Tryz.underlying71 hi0 hz0 hz1 hz2 rfl (by decide) _ _ _ rfl hOo ⟨wr.heap.size, 0, none⟩ 1 1 [.int .i64 v] rfl rfl (cell_one_new _ _ _) (by simp [Value.oneCell']) (by have := HNS.out; unfold maxLen; omega) (by have := HNS.out; omega) (by first | omega | (simp; done) | (simp; omega)) ?_; intro v2 W5 hown' hgrow _))
              have hown3 : W5.ownsRow w1.heap.size 3 1 v2 (ns ++ [v]).length (intsL (ns ++ [v])) := by
                rw [HI1.out.1, HI1.out.2]; exact hown'
              have hb3 := HB0.out.grown hgrow (fun e => own_blk_ne hOo HB0.out (by decide) e.symm)
              have hne := own_ne hOo (Or.inl HG1.out)
              have hs3 := HO2.out.kept hgrow (Or.inr hne)
              exact ⟨⟨k + 1, ns ++ [v], v2, rfl, by go_num, by omega, HN2, hown3, hb3, hs3, below_own hBo (Nat.le_refl _) hOo hgrow⟩, by simp [RowKit.intOf]; omega⟩
          · obtain rfl : k = 9 := by omega
            have n0 := (own_strs_at own hn0).1
            have lt1 := (own_strs_at own hn0).2.1
            have n0' : wr.cell? ⟨g1, 0, none⟩ = some (.string (nmOf s)) := by
              rw [n0, ← HN.out]
              simp [cutB_eq]
            clear n0 own
            obtain ⟨g6, cap6, rfl⟩ := own_slice own6 (by omega)
            have hil : (intsL ns).length = ns.length := by simp [intsL]
            have own6' : wr.ownsRow w1.heap.size 3 1 (.slice (some ⟨g6, 0, none⟩) ns.length cap6) (intsL ns).length (intsL ns) := by rw [hil]; exact own6
            have lt6 := (own_at own6' (j := 0) (by omega)).2.1
            have hr0 : ∀ j (h : j < ns.length), wr.cell? ⟨g6, j, none⟩ = some (.int .i64 ns[j]) := fun j h => by
              rw [(own_at own6' (j := j) (by omega)).1]
              simp [intsL]
            have hr : ∀ j (h : j < (suN (suOf ns)).length), wr.cell? ⟨g6, j, none⟩ = some (.int .i64 (suN (suOf ns))[j]) := by
              rw [suN_of hns]; exact hr0
            have HM : Hid (q = if setupE (nmOf s) (suOf ns) = 0 then ((nmOf s, suOf ns), 0) else ((⟨#[]⟩, suZ), setupE (nmOf s) (suOf ns))) := Lib.hid (by rw [← HQ.out, suP_done H6L.out HNL.out HP.out])
            have hwf := HP.out.wf
            have hnb : (nmOf s).size ≤ 1000000000000 := by omega
            clear own6 own6' hil hr0
            rw [hns]
            obtain ⟨S, hS⟩ : ∃ S, suOf ns = S := ⟨_, rfl⟩
            obtain ⟨nm, hnm⟩ : ∃ nm, nmOf s = nm := ⟨_, rfl⟩
            rw [hS] at hr HM hwf
            rw [hnm] at n0' HM hnb
            obtain ⟨ev, hev⟩ : ∃ ev, setupE nm S = ev := ⟨_, rfl⟩
            have HME : Hid (∀ W', Calls Tryz.prog 9 #[.agg (suC nm S)] W' fun e w' => e = .returned (.int .i64 ev) ∧ Below W'.heap.size W' w') := Lib.hid fun W' => by rw [← hev]; exact rCheckSetup_any nm S W' hnb hwf
            rw [hev] at HM
            have HNM := Lib.hid hnm
            have HHR := Lib.hid hr
            clear hS hev hwf hnb hnm hns hr
            have lt0 := b0.lt
            go_upto_region 17 with fail
            refine rParReg17 nm S n0' lt1 lt6 HHR.out _ _ ?_
            intro t54 t55 t56 t57 t58 t59 t60 t61 t62 t63 t64 t65 t66 t67 t68 t69 t70 t71 t72 t73 t74 t75 t76 t77 t78 t79 t80 t81 t82 t83 t84 t85 t86 t87 p w5 hS5 hp b9
            have hBB3 := hBB2.trans (Below.mono hS5 (Below.size hBB2))
            replace b0 := b0.gr hS5
            replace lt0 := b0.lt
            have lt9 := b9.lt
            have HB9 := Lib.hid b9
            have HzB := Below.size hBB3
            clear lt1 lt6 n0' hS5 HOW hBB2 hB hzw hBB
            obtain ⟨d0, d1, d2, d3, d4, d5, d6, d7, d8, d9, _⟩ := blkX b9
            clear b9
            try dsimp only
            by_cases hE0 : ev = 0
            · subst hE0
              have HQM : Hid (q = ((nm, S), 0)) := Lib.hid (by rw [HM.out, if_pos rfl])
              go_wp2_with (go_at_call 9; refine (HME.out _).mono ?_; rintro e w6 ⟨rfl, hB6⟩; have b0' := b0.below hB6 lt0; have b9' := HB9.out.below hB6 lt9; have f0 := b0'.frozen; have hBB' := hBB3.trans (hB6.mono HzB); have lt0' := b0'.lt; have lt9' := b9'.lt; clear d0 d1 d2 d3 d4 d5 d6 d7 d8 d9 lt0 lt9 b0 hBB3 hB6; obtain ⟨c0, c1, c2, c3, c4, c5, c6, c7, c8, c9, _⟩ := blkX b0'; obtain ⟨d0, d1, d2, d3, d4, d5, d6, d7, d8, d9, _⟩ := blkX b9')
              have z0 := blk_putX b0' (.string nm) (.int .i64 S.at_) (.int .i64 S.side) (.int .i64 S.legs) (.int .i64 S.ln) (.int .i64 S.ld) (.int .i64 S.mn) (.int .i64 S.md) (.int .i64 S.tn) (.int .i64 S.td)
              obtain ⟨u0, u1, u2, u3, u4, u5, u6, u7, u8, u9, _⟩ := blkX z0
              have below_ := setX_below hBB' (g := w.heap.size) (Nat.le_refl _) (.string nm) (.int .i64 S.at_) (.int .i64 S.side) (.int .i64 S.legs) (.int .i64 S.ln) (.int .i64 S.ld) (.int .i64 S.mn) (.int .i64 S.md) (.int .i64 S.tn) (.int .i64 S.td)
              exact bodyPost_ret (v := .tuple #[.agg #[.string nm, .int .i64 S.at_, .int .i64 S.side, .int .i64 S.legs, .int .i64 S.ln, .int .i64 S.ld, .int .i64 S.mn, .int .i64 S.md, .int .i64 S.tn, .int .i64 S.td], .int .i64 0]) (by simp [results, Tryz.results8, go_sem, u0, u1, u2, u3, u4, u5, u6, u7, u8, u9]) rfl ⟨by rw [HQM.out]; rfl, by first | exact below_ | exact below_.drew | exact (by repeat (first | (with_reducible exact Below.refl _ _) | (with_reducible assumption) | ((with_reducible refine Below.setCell ?_ ?_ _); rotate_left; · (first | exact Nat.le_refl _ | (simp; done) | (simp; omega) | omega)) | ((with_reducible refine Below.alloc ?_ ?_ _); rotate_left; · (first | exact Nat.le_refl _ | (simp; done) | (simp; omega) | omega)) | (with_reducible apply Below.drew) | (with_reducible apply below_drewN') | (refine Below.trans ?_ (Below.mono (by assumption) (by first | exact Nat.le_refl _ | (simp; done) | (simp; omega) | omega))) | exact Below.refl _ _ | assumption))⟩
            · have HQM : Hid (q = ((⟨#[]⟩, suZ), ev)) := Lib.hid (by rw [HM.out, if_neg hE0])
              have hEn : (ev != 0) = true := by rw [bne_iff_ne]; exact hE0
              have hEz : (ev == 0) = false := beq_eq_false_iff_ne.2 hE0
              clear hE0
              go_wp2_with (go_at_call 9; refine (HME.out _).mono ?_; rintro e w6 ⟨rfl, hB6⟩; have b0' := b0.below hB6 lt0; have f0 := b0'.frozen; have hBB' := hBB3.trans (hB6.mono HzB); have lt0' := b0'.lt; clear d0 d1 d2 d3 d4 d5 d6 d7 d8 d9 lt0 lt9 b0 hBB3 hB6; obtain ⟨c0, c1, c2, c3, c4, c5, c6, c7, c8, c9, _⟩ := blkX b0')
              have z0 := blk_putX b0' (.string ⟨#[]⟩) (.int .i64 0) (.int .i64 0) (.int .i64 0) (.int .i64 0) (.int .i64 0) (.int .i64 0) (.int .i64 0) (.int .i64 0) (.int .i64 0)
              obtain ⟨u0, u1, u2, u3, u4, u5, u6, u7, u8, u9, _⟩ := blkX z0
              have below_ := setX_below hBB' (g := w.heap.size) (Nat.le_refl _) (.string ⟨#[]⟩) (.int .i64 0) (.int .i64 0) (.int .i64 0) (.int .i64 0) (.int .i64 0) (.int .i64 0) (.int .i64 0) (.int .i64 0) (.int .i64 0)
              exact bodyPost_ret (v := .tuple #[.agg #[.string ⟨#[]⟩, .int .i64 0, .int .i64 0, .int .i64 0, .int .i64 0, .int .i64 0, .int .i64 0, .int .i64 0, .int .i64 0, .int .i64 0], .int .i64 ev]) (by simp [results, Tryz.results8, go_sem, u0, u1, u2, u3, u4, u5, u6, u7, u8, u9]) rfl ⟨by rw [HQM.out]; rfl, by first | exact below_ | exact below_.drew | exact (by repeat (first | (with_reducible exact Below.refl _ _) | (with_reducible assumption) | ((with_reducible refine Below.setCell ?_ ?_ _); rotate_left; · (first | exact Nat.le_refl _ | (simp; done) | (simp; omega) | omega)) | ((with_reducible refine Below.alloc ?_ ?_ _); rotate_left; · (first | exact Nat.le_refl _ | (simp; done) | (simp; omega) | omega)) | (with_reducible apply Below.drew) | (with_reducible apply below_drewN') | (refine Below.trans ?_ (Below.mono (by assumption) (by first | exact Nat.le_refl _ | (simp; done) | (simp; omega) | omega))) | exact Below.refl _ _ | assumption))⟩
  · have HE := Lib.hid (HLEN.out (by rw [← HWL.out]; exact h6))
    have h6' : (((cutB 32 s).length : Int) != 10) = true := by rw [bne_iff_ne]; omega
    have f0 := b0.frozen
    obtain ⟨c0, c1, c2, c3, c4, c5, c6, c7, c8, c9, _⟩ := blkX b0
    clear n0'
    go_wp2
    have z0 := blk_putX b0 (.string ⟨#[]⟩) (.int .i64 0) (.int .i64 0) (.int .i64 0) (.int .i64 0) (.int .i64 0) (.int .i64 0) (.int .i64 0) (.int .i64 0) (.int .i64 0)
    obtain ⟨u0, u1, u2, u3, u4, u5, u6, u7, u8, u9, _⟩ := blkX z0
    have below_ := setX_below hBB (g := w.heap.size) (Nat.le_refl _) (.string ⟨#[]⟩) (.int .i64 0) (.int .i64 0) (.int .i64 0) (.int .i64 0) (.int .i64 0) (.int .i64 0) (.int .i64 0) (.int .i64 0) (.int .i64 0)
    exact bodyPost_ret (v := .tuple #[.agg #[.string ⟨#[]⟩, .int .i64 0, .int .i64 0, .int .i64 0, .int .i64 0, .int .i64 0, .int .i64 0, .int .i64 0, .int .i64 0, .int .i64 0], .int .i64 7]) (by simp [results, Tryz.results8, go_sem, u0, u1, u2, u3, u4, u5, u6, u7, u8, u9]) rfl ⟨by rw [HE.out]; rfl, by first | exact below_ | exact below_.drew | exact (by repeat (first | (with_reducible exact Below.refl _ _) | (with_reducible assumption) | ((with_reducible refine Below.setCell ?_ ?_ _); rotate_left; · (first | exact Nat.le_refl _ | (simp; done) | (simp; omega) | omega)) | ((with_reducible refine Below.alloc ?_ ?_ _); rotate_left; · (first | exact Nat.le_refl _ | (simp; done) | (simp; omega) | omega)) | (with_reducible apply Below.drew) | (with_reducible apply below_drewN') | (refine Below.trans ?_ (Below.mono (by assumption) (by first | exact Nat.le_refl _ | (simp; done) | (simp; omega) | omega))) | exact Below.refl _ _ | assumption))⟩
end Go.Proofs.YtkbggcencmjgfaaGreatDoor
