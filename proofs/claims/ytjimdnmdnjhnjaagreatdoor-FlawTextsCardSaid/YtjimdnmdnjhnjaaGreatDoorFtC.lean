/- Contract: the mark with a text (flaw.ParseMark). -/
import Derived.Test.YtjimdnmdnjhnjaaGreatDoorFtR
namespace Go.Proofs.YtjimdnmdnjhnjaaGreatDoor
open Go.RowKit Go.Lib

/-- The first k numbers of a text are read. -/
def ParS (s : ByteArray) (k : Nat) (ns : List Int) : Prop := ns.length = k ∧ numsL 10 ((cutL 32 s.data.toList).tail.take k) = some ns
def nmOf (s : ByteArray) : ByteArray := strB ((cutL 32 s.data.toList).headD [])
theorem ParS.start (s : ByteArray) : ParS s 0 [] := ⟨rfl, by simp [numsL]⟩
theorem tail_at {s : ByteArray} {k : Nat} (h : k + 1 < (cutL 32 s.data.toList).length) : (cutL 32 s.data.toList).tail.take (k + 1) = (cutL 32 s.data.toList).tail.take k ++ [(cutL 32 s.data.toList)[k + 1]] := by
  rw [List.take_add_one, List.getElem?_tail, List.getElem?_eq_getElem h]
  rfl
theorem ParS.next {s : ByteArray} {k : Nat} {ns : List Int} {v : Int} (h : ParS s k ns) (hk : k + 1 < (cutL 32 s.data.toList).length) (hv : numL 10 (cutL 32 s.data.toList)[k + 1] = some v) : ParS s (k + 1) (ns ++ [v]) :=
  ⟨by rw [List.length_append, h.1]; rfl, by rw [tail_at hk]; exact numsL_snoc 10 _ _ _ _ h.2 hv⟩
theorem markP_len {s : ByteArray} (h : (cutL 32 s.data.toList).length ≠ 6) : markP s = (mkZ, 7) := by
  unfold markP; simp only []; rw [if_pos (Or.inl h)]
theorem markP_line {s : ByteArray} (h : (10 : UInt8) ∈ (nmOf s).data.toList) : markP s = (mkZ, 7) := by
  have h' : (10 : UInt8) ∈ (cutL 32 s.data.toList).headD [] := h
  unfold markP; simp only []; rw [if_pos (Or.inr h')]
theorem markP_bad {s : ByteArray} {k : Nat} (hk : k + 1 < (cutL 32 s.data.toList).length) (hv : numL 10 (cutL 32 s.data.toList)[k + 1] = none) : markP s = (mkZ, 7) := by
  unfold markP; simp only []
  split
  · rfl
  · rw [numsL_none 10 _ _ (List.mem_of_getElem? (i := k) (by rw [List.getElem?_tail, List.getElem?_eq_getElem hk])) hv]
theorem markP_done {s : ByteArray} {ns : List Int} (h6 : (cutL 32 s.data.toList).length = 6) (hn : (10 : UInt8) ∉ (nmOf s).data.toList) (h : ParS s 5 ns) :
    markP s = if markE (mkOf (nmOf s) ns) = 0 then (mkOf (nmOf s) ns, 0) else (mkZ, markE (mkOf (nmOf s) ns)) := by
  have h2 := h.2
  rw [List.take_of_length_le (by rw [List.length_tail]; omega)] at h2
  unfold markP; simp only []
  have hn' : (10 : UInt8) ∉ (cutL 32 s.data.toList).headD [] := hn
  rw [if_neg (by rintro (e | e); exact e h6; exact hn' e), h2]
  rfl
theorem cutB_at (s : ByteArray) (c : UInt8) {j : Nat} (h : j < (cutL c s.data.toList).length) : (strsC (cutB c s)).toArray[j]? = some (.string (strB (cutL c s.data.toList)[j])) := by
  rw [List.getElem?_toArray, strsC, List.getElem?_map, cutB_eq, List.getElem?_map, List.getElem?_eq_getElem h]
  rfl
theorem cutB_len (s : ByteArray) (c : UInt8) : (cutB c s).length = (cutL c s.data.toList).length := by rw [cutB_eq, List.length_map]
theorem nmOf_at (s : ByteArray) : ∃ h : 0 < (cutL 32 s.data.toList).length, strB (cutL 32 s.data.toList)[0] = nmOf s := by
  have hne := cutL_ne 32 s.data.toList
  unfold nmOf
  cases hc : cutL 32 s.data.toList with
  | nil => exact absurd hc hne
  | cons x xs => exact ⟨by simp, rfl⟩
theorem mkOf_set (nm : ByteArray) {k : Nat} {ns : List Int} (hk : ns.length = k) (h5 : k < 5) (v : Int) : (mkC (mkOf nm ns)).setIfInBounds (k + 1) (.int .i64 v) = mkC (mkOf nm (ns ++ [v])) := by
  subst hk
  match ns, h5 with
  | [], _ => rfl
  | [_], _ => rfl
  | [_, _], _ => rfl
  | [_, _, _], _ => rfl
  | [_, _, _, _], _ => rfl
theorem nmOf_size (s : ByteArray) : (nmOf s).size ≤ s.size := by
  obtain ⟨h, e⟩ := nmOf_at s
  rw [← e, strB_size, ← size_list s]
  exact cutL_size 32 _ _ (List.getElem_mem h)

set_option maxRecDepth 100000 in
set_option maxHeartbeats 8000000 in
theorem parseMark_any (s : ByteArray) (hs : s.size ≤ 1000) (w : World) (hL : LibW w) : Calls Tryz.prog 6 #[.string s] w fun e w' => e = .returned (.tuple #[.agg (mkC (markP s).1), .int .i64 (markP s).2]) ∧ Below w.heap.size w w' := by
  have HL := Lib.hid hL; clear hL
  obtain ⟨hn0, hnm⟩ := nmOf_at s
  have hnms := nmOf_size s
  have HLEN : Hid (∀ h : (cutL 32 s.data.toList).length ≠ 6, markP s = (mkZ, 7)) := Lib.hid fun h => markP_len h
  have HLINE : Hid (∀ h : (10 : UInt8) ∈ (nmOf s).data.toList, markP s = (mkZ, 7)) := Lib.hid fun h => markP_line h
  obtain ⟨q, hq⟩ : ∃ q, markP s = q := ⟨_, rfl⟩
  rw [hq] at HLEN HLINE ⊢
  have HQ := Lib.hid hq; clear hq
  have HN := Lib.hid hnm; clear hnm
  have hwl := cutB_len s 32
  have HWL := Lib.hid hwl
  rw [← hwl] at hn0
  clear hwl
  have b0 := Blk.new w 25 (mkC mkZ)
  have hB0 : Below w.heap.size w (w.alloc (.cells (mkC mkZ) 25)) := (by repeat (first | (with_reducible exact Below.refl _ _) | (with_reducible assumption) | ((with_reducible refine Below.setCell ?_ ?_ _); rotate_left; · (first | exact Nat.le_refl _ | (simp; done) | (simp; omega) | omega)) | ((with_reducible refine Below.alloc ?_ ?_ _); rotate_left; · (first | exact Nat.le_refl _ | (simp; done) | (simp; omega) | omega)) | (with_reducible apply Below.drew) | (with_reducible apply below_drewN') | (refine Below.trans ?_ (Below.mono (by assumption) (by first | exact Nat.le_refl _ | (simp; done) | (simp; omega) | omega))) | exact Below.refl _ _ | assumption))
  have HL0 := Lib.hid (HL.out.below hB0 (Nat.le_refl _))
  go_enter Tryz.func6, Tryz.ntmps6
  go_wp2_with fail
  refine (split_any s 32 (by omega) _ HL0.out).mono ?_
  rintro e w1 ⟨rfl, hw1⟩
  have b1 := Blk.new (w.alloc (.cells (mkC mkZ) 25)) 9 (strsC (cutB 32 s)).toArray
  replace b0 := b0.alloc (.cells (strsC (cutB 32 s)).toArray 9)
  have hBB : Below w.heap.size w ((w.alloc (.cells (mkC mkZ) 25)).alloc (.cells (strsC (cutB 32 s)).toArray 9)) := (by repeat (first | (with_reducible exact Below.refl _ _) | (with_reducible assumption) | ((with_reducible refine Below.setCell ?_ ?_ _); rotate_left; · (first | exact Nat.le_refl _ | (simp; done) | (simp; omega) | omega)) | ((with_reducible refine Below.alloc ?_ ?_ _); rotate_left; · (first | exact Nat.le_refl _ | (simp; done) | (simp; omega) | omega)) | (with_reducible apply Below.drew) | (with_reducible apply below_drewN') | (refine Below.trans ?_ (Below.mono (by assumption) (by first | exact Nat.le_refl _ | (simp; done) | (simp; omega) | omega))) | exact Below.refl _ _ | assumption))
  have hz1 : w1.heap.size = w.heap.size + 2 := by rw [hw1]; simp
  rw [← hw1] at b0 b1 hBB
  simp only [World.size_alloc] at b1 ⊢
  clear hw1 hB0 HL0
  have n0 : w1.cell? ⟨w.heap.size + 1, 0, none⟩ = some (.string (nmOf s)) := by
    rw [b1.cell 0, cutB_at s 32 (by rw [← HWL.out]; exact hn0), HN.out]
  have f1 := b1.frozen
  have b2 := Blk.new w1 25 (mkC (mkOf (nmOf s) []))
  rw [hz1] at b2
  go_wp2_with fail
  refine (numbersOf_any _ _).mono ?_
  rintro e w2 ⟨rfl, hB2⟩
  have hz2 := Below.size hB2
  simp only [World.size_alloc, hz1] at hz2
  have lt0 := b0.lt
  have lt1 := b1.lt
  replace b0 := (b0.alloc (.cells (mkC (mkOf (nmOf s) [])) 25)).below hB2 (by simp; omega)
  replace b1 := (b1.alloc (.cells (mkC (mkOf (nmOf s) [])) 25)).below hB2 (by simp; omega)
  replace b2 := b2.below hB2 (by simp; omega)
  replace hBB := (hBB.alloc (by omega) (.cells (mkC (mkOf (nmOf s) [])) 25)).trans (hB2.mono (by simp; omega))
  clear hB2 n0 f1 hz1 lt0 lt1
  have b3 := Blk.new w2 68 #[ptr (w.heap.size + 2) 1, ptr (w.heap.size + 2) 2, ptr (w.heap.size + 2) 3, ptr (w.heap.size + 2) 4, ptr (w.heap.size + 2) 5]
  by_cases h6 : (cutB 32 s).length = 6
  · have h6' : (((cutB 32 s).length : Int) != 6) = false := by rw [h6]; rfl
    have h6L : (cutL 32 s.data.toList).length = 6 := by rw [← HWL.out]; exact h6
    have H6L := Lib.hid h6L; clear h6L
    have b0w := Lib.hid b0
    have HBW := Lib.hid hBB
    replace b0 := b0.alloc (.cells #[ptr (w.heap.size + 2) 1, ptr (w.heap.size + 2) 2, ptr (w.heap.size + 2) 3, ptr (w.heap.size + 2) 4, ptr (w.heap.size + 2) 5] 68)
    replace b1 := b1.alloc (.cells #[ptr (w.heap.size + 2) 1, ptr (w.heap.size + 2) 2, ptr (w.heap.size + 2) 3, ptr (w.heap.size + 2) 4, ptr (w.heap.size + 2) 5] 68)
    replace hBB := hBB.alloc (by omega) (.cells #[ptr (w.heap.size + 2) 1, ptr (w.heap.size + 2) 2, ptr (w.heap.size + 2) 3, ptr (w.heap.size + 2) 4, ptr (w.heap.size + 2) 5] 68)
    have n0 := b2.cell 0
    have lt2 := b2.lt
    have HLW := Lib.hid (HL.out.below hBB (Nat.le_refl _))
    have hcn := contains_one_any (nmOf s) 10 (by omega) _ HLW.out
    have d0 := b3.cell 0
    have d1 := b3.cell 1
    have d2 := b3.cell 2
    have d3 := b3.cell 3
    have d4 := b3.cell 4
    by_cases hl : (10 : UInt8) ∈ (nmOf s).data.toList
    · have HE := Lib.hid (HLINE.out hl)
      rw [decide_eq_true hl] at hcn
      have HCN := Lib.hid hcn; clear hcn hl
      clear b0 b1
      have b0 := b0w.out
      have hBB' := HBW.out
      have f0 := b0.frozen
      obtain ⟨c0, c1, c2, c3, c4, c5, _⟩ := blk6 b0
      have lt0 := b0.lt
      clear d0 d1 d2 d3 d4 b3
      go_wp2_with (go_at_call 22; refine HCN.out.mono ?_; rintro e w3 ⟨rfl, rfl⟩)
      have z0 := (blk_put6 b0 (.string ⟨#[]⟩) (.int .i64 0) (.int .i64 0) (.int .i64 0) (.int .i64 0) (.int .i64 0)).alloc (.cells #[ptr (w.heap.size + 2) 1, ptr (w.heap.size + 2) 2, ptr (w.heap.size + 2) 3, ptr (w.heap.size + 2) 4, ptr (w.heap.size + 2) 5] 68)
      obtain ⟨u0, u1, u2, u3, u4, u5, _⟩ := blk6 z0
      have below_ := set6_below hBB' (g := w.heap.size) (Nat.le_refl _) (.string ⟨#[]⟩) (.int .i64 0) (.int .i64 0) (.int .i64 0) (.int .i64 0) (.int .i64 0)
      exact bodyPost_ret (v := .tuple #[.agg #[.string ⟨#[]⟩, .int .i64 0, .int .i64 0, .int .i64 0, .int .i64 0, .int .i64 0], .int .i64 7]) (by simp [results, Tryz.results6, go_sem, u0, u1, u2, u3, u4, u5]) rfl ⟨by rw [HE.out]; rfl, below_.alloc (by simp; omega) _⟩
    · rw [decide_eq_false hl] at hcn
      have HCN := Lib.hid hcn; clear hcn
      replace b2 := b2.alloc (.cells #[ptr (w.heap.size + 2) 1, ptr (w.heap.size + 2) 2, ptr (w.heap.size + 2) 3, ptr (w.heap.size + 2) 4, ptr (w.heap.size + 2) 5] 68)
      go_wp2_with (go_at_call 22; refine HCN.out.mono ?_; rintro e w3 ⟨rfl, rfl⟩)
      clear n0 lt2 d0 d1 d2 d3 d4 HCN HLW b3 b0w HBW h6'
      obtain ⟨W, hW⟩ : ∃ W, w2.alloc (.cells #[ptr (w.heap.size + 2) 1, ptr (w.heap.size + 2) 2, ptr (w.heap.size + 2) 3, ptr (w.heap.size + 2) 4, ptr (w.heap.size + 2) 5] 68) = W := ⟨_, rfl⟩
      rw [hW] at b0 b1 b2 hBB ⊢
      have lt3 : w.heap.size + 3 < W.heap.size := by rw [← hW]; simp; omega
      clear hW hz2
      have HNL := Lib.hid hl; clear hl
      go_loopw [29] (fun s29 wr => ∃ (k : Nat) (ns : List Int), s29 = .int .i64 k ∧ k ≤ 5 ∧ Hid (ParS s k ns) ∧ Blk wr w.heap.size 25 (mkC mkZ) ∧ Blk wr (w.heap.size + 1) 9 (strsC (cutB 32 s)).toArray ∧ Blk wr (w.heap.size + 2) 25 (mkC (mkOf (nmOf s) ns)) ∧ Below w.heap.size w wr) (fun s29 _ => 5 - (intOf s29).toNat)
      case atStart => exact ⟨0, [], rfl, by omega, Lib.hid (ParS.start s), b0, b1, b2, hBB⟩
      case round =>
        clear b0 b1 b2 hBB lt3 W
        obtain ⟨k, ns, rfl, hk, HP, b0, b1, b2, hBB⟩ := hrel
        have hzB := Below.size hBB
        by_cases hlt : k < 5
        · have hlI : (k : Int) < 5 := by omega
          have hp := index_ptr (w.heap.size + 2) hlt wr
          have hkl : k + 1 < (cutL 32 s.data.toList).length := by rw [H6L.out]; omega
          have cx := b1.cell (k + 1)
          rw [cutB_at s 32 hkl] at cx
          have HX0 : Hid (numL 10 (cutL 32 s.data.toList)[k + 1] = none → q = (mkZ, 7)) := Lib.hid fun h => by rw [← HQ.out]; exact markP_bad hkl h
          have HX1 : Hid (∀ v, numL 10 (cutL 32 s.data.toList)[k + 1] = some v → ParS s (k + 1) (ns ++ [v])) := Lib.hid fun v h => HP.out.next hkl h
          have hxs : (cutL 32 s.data.toList)[k + 1].length ≤ 1000 := Nat.le_trans (cutL_size 32 _ _ (List.getElem_mem hkl)) (by rw [size_list]; exact hs)
          generalize (cutL 32 s.data.toList)[k + 1] = x at *
          have hP := numP_eq 10 (by decide) x
          rw [← hP] at HX0 HX1
          clear hP
          have hxb : (strB x).size ≤ 1000 := by rw [strB_size]; exact hxs
          have lt1 := b1.lt
          have lt2 := b2.lt
          have lt0 := b0.lt
          have HLW := Lib.hid (HL.out.below hBB (Nat.le_refl _))
          by_cases ha : ∃ v, atoiAll x = .ok v
          · obtain ⟨v, hv⟩ := ha
            have hvb := atoiAll_bounds hv
            have HAT := Lib.hid (atoi_ok (strB x) (by omega) v (by rw [strB_data]; exact hv) wr)
            obtain ⟨y, hy⟩ : ∃ y, strB (itoa v) = y := ⟨_, rfl⟩
            have HIT : Hid (∀ W', LibW W' → Calls Tryz.prog 19 #[.int .i64 v] W' fun e w' => e = .returned (.string y) ∧ Below W'.heap.size W' w') := Lib.hid fun W' h => by rw [← hy]; exact itoa_any v hvb.1 hvb.2 W' h
            have HTR : Hid (∀ W', Calls Tryz.prog 24 #[.string (strB x), .string ⟨#[45]⟩] W' fun e w' => e = .returned (.string (strB (bodyL x))) ∧ W' = w') := Lib.hid fun W' => by have := trim_any (strB x) W'; rwa [strB_data] at this
            have hz : (strB (bodyL x)).size = (bodyL x).length := strB_size _
            obtain ⟨b, hb⟩ : ∃ b, b = (!(decide (y = strB x)) || decide (10 < (strB (bodyL x)).size)) := ⟨_, rfl⟩
            have hgood : b = false → numP 10 x = some v := fun e => by
              rw [e] at hb
              have hb1 : y = strB x ∧ (bodyL x).length ≤ 10 := by
                by_cases e1 : y = strB x
                · by_cases e2 : 10 < (strB (bodyL x)).size
                  · rw [decide_eq_true e2] at hb; simp at hb
                  · exact ⟨e1, by rw [hz] at e2; omega⟩
                · rw [decide_eq_false e1] at hb; simp at hb
              unfold numP
              simp only [hv]
              rw [if_pos ⟨strB_inj (hy.trans hb1.1), by rw [trim_body]; exact hb1.2⟩]
            have hbad : b = true → numP 10 x = none := fun e => by
              rw [e] at hb
              unfold numP
              simp only [hv]
              rw [if_neg]
              rintro ⟨e1, e2⟩
              rw [trim_body] at e2
              rw [decide_eq_true (hy.symm.trans (congrArg strB e1)), decide_eq_false (by rw [hz]; omega)] at hb
              simp at hb
            have hts : (strB (bodyL x)).size ≤ 1000 := by
              rw [hz]
              have : (bodyL x).length ≤ x.length := by unfold bodyL; split <;> simp
              omega
            have HBD := Lib.hid hbad
            have HGD := Lib.hid hgood
            have HTS := Lib.hid hts
            have HBE := Lib.hid hb
            clear hz hy hgood hbad hts hb
            go_wp2_with (go_at_call 23; refine HAT.out.mono ?_; rintro e w4 ⟨rfl, hB4⟩; have b0' := b0.below hB4 b0.lt; have b1' := b1.below hB4 b1.lt; have b2' := b2.below hB4 b2.lt; have cx' := (b1'.cell (k + 1)).trans ((b1.cell (k + 1)).symm.trans cx); have hBB' := hBB.trans (hB4.mono hzB); have lt1' := b1'.lt; clear b0 b1 b2 hBB lt0 lt1 lt2 cx)
            have HIT' : Hid (∀ W', Below w4.heap.size w4 W' → Calls Tryz.prog 19 #[.int .i64 v] W' fun e w' => e = .returned (.string y) ∧ Below W'.heap.size W' w') := Lib.hid fun W' hg => HIT.out W' ((HL.out.below hBB' (Nat.le_refl _)).below hg (Nat.le_refl _))
            refine parReg10 hlt v cx' lt1' HIT' HTR HTS.out b HBE.out _ _ ?_
            intro t42 t43 t44 t45 t46 t47 t48 t49 t50 t51 t52 t53 t54 t55 t56 t57 t58 t59 t60 t61 t62 w5 hS5
            have b0 := b0'.gr hS5
            have b1 := b1'.gr hS5
            have b2 := b2'.gr hS5
            have hBB := hBB'.trans (Below.mono hS5 (Below.size hBB'))
            clear b0' b1' b2' hBB' cx' lt1' HIT' HIT HTR hS5 HAT HLW
            have f0 := b0.frozen
            obtain ⟨c0, c1, c2, c3, c4, c5, _⟩ := blk6 b0
            have lt0 := b0.lt
            try dsimp only
            cases b
            · have HN2 := Lib.hid (HX1.out v (HGD.out rfl))
              have f2 := b2.frozen (k + 1)
              have lt2 := b2.lt
              have e2 : ∃ u, w5.cell? ⟨w.heap.size + 2, k + 1, none⟩ = some u := by
                rw [b2.cell (k + 1)]
                exact ⟨_, Array.getElem?_eq_getElem (by show k + 1 < 6; omega)⟩
              obtain ⟨u2, e2⟩ := e2
              have hset := b2.set_ (k + 1) (.int .i64 v)
              rw [mkOf_set (nmOf s) HP.out.1 hlt v] at hset
              have far0 := b0.far (p := ⟨w.heap.size + 2, k + 1, none⟩) (by simp) (.int .i64 v)
              have far1 := b1.far (p := ⟨w.heap.size + 2, k + 1, none⟩) (by simp) (.int .i64 v)
              have HF0 := Lib.hid far0; have HF1 := Lib.hid far1; have HF2 := Lib.hid hset
              clear b0 b1 b2 far0 far1 hset HX0 HX1 c0 c1 c2 c3 c4 c5 f0
              have hbs := hBB.setCell (p := ⟨w.heap.size + 2, k + 1, none⟩) (by simp) (.int .i64 v)
              have HBS := Lib.hid hbs; clear hbs
              go_wp2
              exact ⟨⟨k + 1, _, by go_num, by omega, HN2, HF0.out, HF1.out, HF2.out, HBS.out⟩, by simp [intOf]; omega⟩
            · have HE := Lib.hid (HX0.out (HBD.out rfl))
              go_wp2
              have z0 := blk_put6 b0 (.string ⟨#[]⟩) (.int .i64 0) (.int .i64 0) (.int .i64 0) (.int .i64 0) (.int .i64 0)
              obtain ⟨u0, u1, u2, u3, u4, u5, _⟩ := blk6 z0
              have below_ := set6_below hBB (g := w.heap.size) (Nat.le_refl _) (.string ⟨#[]⟩) (.int .i64 0) (.int .i64 0) (.int .i64 0) (.int .i64 0) (.int .i64 0)
              exact bodyPost_ret (v := .tuple #[.agg #[.string ⟨#[]⟩, .int .i64 0, .int .i64 0, .int .i64 0, .int .i64 0, .int .i64 0], .int .i64 7]) (by simp [results, Tryz.results6, go_sem, u0, u1, u2, u3, u4, u5]) rfl ⟨by rw [HE.out]; rfl, below_⟩
          · have HAT := Lib.hid (atoi_bad (strB x) (by omega) (by rw [strB_data]; exact fun v e => ha ⟨v, e⟩) wr HLW.out)
            have HE : Hid (q = (mkZ, 7)) := Lib.hid (HX0.out (by
              unfold numP
              cases h : atoiAll x with
              | ok v => exact absurd ⟨v, h⟩ ha
              | «syntax» => rfl
              | range => rfl))
            clear ha HX0 HX1
            go_wp2_with (go_at_call 23; refine HAT.out.mono ?_; rintro e w4 ⟨n, N, rfl, hB4⟩; have b0' := b0.below hB4 b0.lt; have f0 := b0'.frozen; obtain ⟨c0, c1, c2, c3, c4, c5, _⟩ := blk6 b0'; have b1' := b1.below hB4 b1.lt; have cx' := (b1'.cell (k + 1)).trans ((b1.cell (k + 1)).symm.trans cx); have hBB' := hBB.trans (hB4.mono hzB); have lt0' := b0'.lt; have lt1' := b1'.lt)
            go_region
            go_wp2
            have z0 := blk_put6 b0' (.string ⟨#[]⟩) (.int .i64 0) (.int .i64 0) (.int .i64 0) (.int .i64 0) (.int .i64 0)
            obtain ⟨u0, u1, u2, u3, u4, u5, _⟩ := blk6 z0
            have below_ := set6_below hBB' (g := w.heap.size) (Nat.le_refl _) (.string ⟨#[]⟩) (.int .i64 0) (.int .i64 0) (.int .i64 0) (.int .i64 0) (.int .i64 0)
            exact bodyPost_ret (v := .tuple #[.agg #[.string ⟨#[]⟩, .int .i64 0, .int .i64 0, .int .i64 0, .int .i64 0, .int .i64 0], .int .i64 7]) (by simp [results, Tryz.results6, go_sem, u0, u1, u2, u3, u4, u5]) rfl ⟨by rw [HE.out]; rfl, by first | exact below_ | exact below_.drew | exact (by repeat (first | (with_reducible exact Below.refl _ _) | (with_reducible assumption) | ((with_reducible refine Below.setCell ?_ ?_ _); rotate_left; · (first | exact Nat.le_refl _ | (simp; done) | (simp; omega) | omega)) | ((with_reducible refine Below.alloc ?_ ?_ _); rotate_left; · (first | exact Nat.le_refl _ | (simp; done) | (simp; omega) | omega)) | (with_reducible apply Below.drew) | (with_reducible apply below_drewN') | (refine Below.trans ?_ (Below.mono (by assumption) (by first | exact Nat.le_refl _ | (simp; done) | (simp; omega) | omega))) | exact Below.refl _ _ | assumption))⟩
        · obtain rfl : k = 5 := by omega
          obtain ⟨M, hM⟩ : ∃ M, mkOf (nmOf s) ns = M := ⟨_, rfl⟩
          have hMn : M.nm.size ≤ 1000000000000 := by rw [← hM]; show (nmOf s).size ≤ _; omega
          have HM : Hid (q = if markE M = 0 then (M, 0) else (mkZ, markE M)) := Lib.hid (by rw [← HQ.out, markP_done H6L.out HNL.out HP.out, hM])
          rw [hM] at b2
          obtain ⟨ev, hev⟩ : ∃ ev, markE M = ev := ⟨_, rfl⟩
          have HME : Hid (∀ W', Calls Tryz.prog 25 #[.agg (mkC M)] W' fun e w' => e = .returned (.int .i64 ev) ∧ Below W'.heap.size W' w') := Lib.hid fun W' => by rw [← hev]; exact markErr_any M hMn W'
          rw [hev] at HM
          clear hM hev hMn b1
          have lt0 := b0.lt
          have lt2 := b2.lt
          have HB2 := Lib.hid b2
          obtain ⟨d0, d1, d2, d3, d4, d5, _⟩ := blk6 b2
          clear b2
          by_cases hE0 : ev = 0
          · subst hE0
            have HQM : Hid (q = (M, 0)) := Lib.hid (by rw [HM.out, if_pos rfl])
            go_wp2_with (go_at_call 25; refine (HME.out _).mono ?_; rintro e w4 ⟨rfl, hB4⟩; have b0' := b0.below hB4 lt0; have b2' := HB2.out.below hB4 lt2; have f0 := b0'.frozen; have hBB' := hBB.trans (hB4.mono hzB); have lt0' := b0'.lt; have lt2' := b2'.lt; clear d0 d1 d2 d3 d4 d5 lt0 lt2 b0 hBB hB4; obtain ⟨c0, c1, c2, c3, c4, c5, _⟩ := blk6 b0'; obtain ⟨d0, d1, d2, d3, d4, d5, _⟩ := blk6 b2')
            have z0 := blk_put6 b0' (.string M.nm) (.int .i64 M.al) (.int .i64 M.ah) (.int .i64 M.dl) (.int .i64 M.dh) (.int .i64 M.lv)
            obtain ⟨u0, u1, u2, u3, u4, u5, _⟩ := blk6 z0
            have below_ := set6_below hBB' (g := w.heap.size) (Nat.le_refl _) (.string M.nm) (.int .i64 M.al) (.int .i64 M.ah) (.int .i64 M.dl) (.int .i64 M.dh) (.int .i64 M.lv)
            exact bodyPost_ret (v := .tuple #[.agg #[.string M.nm, .int .i64 M.al, .int .i64 M.ah, .int .i64 M.dl, .int .i64 M.dh, .int .i64 M.lv], .int .i64 0]) (by simp [results, Tryz.results6, go_sem, u0, u1, u2, u3, u4, u5]) rfl ⟨by rw [HQM.out], by first | exact below_ | exact below_.drew | exact (by repeat (first | (with_reducible exact Below.refl _ _) | (with_reducible assumption) | ((with_reducible refine Below.setCell ?_ ?_ _); rotate_left; · (first | exact Nat.le_refl _ | (simp; done) | (simp; omega) | omega)) | ((with_reducible refine Below.alloc ?_ ?_ _); rotate_left; · (first | exact Nat.le_refl _ | (simp; done) | (simp; omega) | omega)) | (with_reducible apply Below.drew) | (with_reducible apply below_drewN') | (refine Below.trans ?_ (Below.mono (by assumption) (by first | exact Nat.le_refl _ | (simp; done) | (simp; omega) | omega))) | exact Below.refl _ _ | assumption))⟩
          · have HQM : Hid (q = (mkZ, ev)) := Lib.hid (by rw [HM.out, if_neg hE0])
            have hEn : (ev != 0) = true := by rw [bne_iff_ne]; exact hE0
            have hEz : (ev == 0) = false := beq_eq_false_iff_ne.2 hE0
            clear hE0
            go_wp2_with (go_at_call 25; refine (HME.out _).mono ?_; rintro e w4 ⟨rfl, hB4⟩; have b0' := b0.below hB4 lt0; have f0 := b0'.frozen; have hBB' := hBB.trans (hB4.mono hzB); have lt0' := b0'.lt; clear d0 d1 d2 d3 d4 d5 lt0 lt2 b0 hBB hB4; obtain ⟨c0, c1, c2, c3, c4, c5, _⟩ := blk6 b0')
            have z0 := blk_put6 b0' (.string ⟨#[]⟩) (.int .i64 0) (.int .i64 0) (.int .i64 0) (.int .i64 0) (.int .i64 0)
            obtain ⟨u0, u1, u2, u3, u4, u5, _⟩ := blk6 z0
            have below_ := set6_below hBB' (g := w.heap.size) (Nat.le_refl _) (.string ⟨#[]⟩) (.int .i64 0) (.int .i64 0) (.int .i64 0) (.int .i64 0) (.int .i64 0)
            exact bodyPost_ret (v := .tuple #[.agg #[.string ⟨#[]⟩, .int .i64 0, .int .i64 0, .int .i64 0, .int .i64 0, .int .i64 0], .int .i64 ev]) (by simp [results, Tryz.results6, go_sem, u0, u1, u2, u3, u4, u5]) rfl ⟨by rw [HQM.out]; rfl, by first | exact below_ | exact below_.drew | exact (by repeat (first | (with_reducible exact Below.refl _ _) | (with_reducible assumption) | ((with_reducible refine Below.setCell ?_ ?_ _); rotate_left; · (first | exact Nat.le_refl _ | (simp; done) | (simp; omega) | omega)) | ((with_reducible refine Below.alloc ?_ ?_ _); rotate_left; · (first | exact Nat.le_refl _ | (simp; done) | (simp; omega) | omega)) | (with_reducible apply Below.drew) | (with_reducible apply below_drewN') | (refine Below.trans ?_ (Below.mono (by assumption) (by first | exact Nat.le_refl _ | (simp; done) | (simp; omega) | omega))) | exact Below.refl _ _ | assumption))⟩
  · have HE := Lib.hid (HLEN.out (by rw [← HWL.out]; exact h6))
    have h6' : (((cutB 32 s).length : Int) != 6) = true := by rw [bne_iff_ne]; omega
    have f0 := b0.frozen
    obtain ⟨c0, c1, c2, c3, c4, c5, _⟩ := blk6 b0
    have lt0 := b0.lt
    go_wp2
    have z0 := (blk_put6 b0 (.string ⟨#[]⟩) (.int .i64 0) (.int .i64 0) (.int .i64 0) (.int .i64 0) (.int .i64 0)).alloc (.cells #[ptr (w.heap.size + 2) 1, ptr (w.heap.size + 2) 2, ptr (w.heap.size + 2) 3, ptr (w.heap.size + 2) 4, ptr (w.heap.size + 2) 5] 68)
    obtain ⟨u0, u1, u2, u3, u4, u5, _⟩ := blk6 z0
    have below_ := set6_below hBB (g := w.heap.size) (Nat.le_refl _) (.string ⟨#[]⟩) (.int .i64 0) (.int .i64 0) (.int .i64 0) (.int .i64 0) (.int .i64 0)
    exact bodyPost_ret (v := .tuple #[.agg #[.string ⟨#[]⟩, .int .i64 0, .int .i64 0, .int .i64 0, .int .i64 0, .int .i64 0], .int .i64 7]) (by simp [results, Tryz.results6, go_sem, u0, u1, u2, u3, u4, u5]) rfl ⟨by rw [HE.out]; rfl, below_.alloc (by simp; omega) _⟩
end Go.Proofs.YtjimdnmdnjhnjaaGreatDoor
