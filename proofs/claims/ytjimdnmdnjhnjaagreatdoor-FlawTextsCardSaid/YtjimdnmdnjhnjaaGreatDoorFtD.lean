/- Contracts: the text of a mark, and the mark with a text, by the reference (FormatMark, ParseMark). -/
import Derived.Test.YtjimdnmdnjhnjaaGreatDoorFtC
import Derived.Test.YtjimdnmdnjhnjaaGreatDoorTxD
import Derived.Test.YtjimdnmdnjhnjaaGreatDoorTxE
import Derived.Test.YtjimdnmdnjhnjaaGreatDoorZgFfB
import Derived.OneCell
import Derived.Test.YtjimdnmdnjhnjaaGreatDoorFtS
namespace Go.Proofs.YtjimdnmdnjhnjaaGreatDoor
open Go.RowKit Go.Lib

/-- The text so far. -/
def markTx (m : Mk) (k : Nat) : ByteArray := strB (m.nm.data.toList ++ (((markN m).take k).map fun n => 32 :: itoa n).flatten)
theorem markTx_zero (m : Mk) : markTx m 0 = m.nm := by unfold markTx; simp [strB_back]
theorem markTx_succ (m : Mk) {k : Nat} (h : k < (markN m).length) : markTx m (k + 1) = markTx m k ++ strB [32] ++ strB (itoa (markN m)[k]) := by
  unfold markTx
  rw [List.take_add_one, List.getElem?_eq_getElem h, strB_append, strB_append, List.map_append, List.flatten_append, List.append_assoc, List.append_assoc]
  simp only [Option.toList_some, List.map_cons, List.map_nil, List.flatten_cons, List.flatten_nil, List.append_nil, List.singleton_append]
theorem markTx_done (m : Mk) : markTx m 5 = markT m := by
  unfold markTx markT
  rw [List.take_of_length_le (by simp [markN])]
  simp [markW, markN, join, List.intercalate, List.intersperse]
theorem markTx_size (m : Mk) (h : markI m) (k : Nat) : (markTx m k).size ≤ m.nm.size + 21 * k := by
  induction k with
  | zero => rw [markTx_zero]; omega
  | succ k ih =>
    by_cases hk : k < (markN m).length
    · rw [markTx_succ m hk, ByteArray.size_append, ByteArray.size_append, strB_size, strB_size]
      have := itoa_size _ (h _ (List.getElem_mem hk)).1 (h _ (List.getElem_mem hk)).2
      simp only [List.length_cons, List.length_nil]
      omega
    · have : markTx m (k + 1) = markTx m k := by
        unfold markTx
        rw [List.take_of_length_le (by omega), List.take_of_length_le (by omega)]
      rw [this]; omega
set_option maxRecDepth 100000 in
set_option maxHeartbeats 1000000 in
theorem refFormatMark_any (m : Mk) (hI : Hid (markI m)) (hs : m.nm.size ≤ 1000) (w : World) : Calls Tryz.prog 8 #[.agg (mkC m)] w fun e w' => e = .returned (.string (markT m)) ∧ Below w.heap.size w w' := by
  have b0 := Blk.new w 25 (mkC m)
  obtain ⟨c0, c1, c2, c3, c4, c5, f0⟩ := blk6 b0
  have a1 := Blk.new (w.alloc (.cells (mkC m) 25)) 82 #[.int .i64 m.al, .int .i64 m.ah, .int .i64 m.dl, .int .i64 m.dh, .int .i64 m.lv]
  simp only [World.size_alloc] at a1
  have hBB : Below w.heap.size w ((w.alloc (.cells (mkC m) 25)).alloc (.cells #[.int .i64 m.al, .int .i64 m.ah, .int .i64 m.dl, .int .i64 m.dh, .int .i64 m.lv] 82)) := (by repeat (first | (with_reducible exact Below.refl _ _) | (with_reducible assumption) | ((with_reducible refine Below.setCell ?_ ?_ _); rotate_left; · (first | exact Nat.le_refl _ | (simp; done) | (simp; omega) | omega)) | ((with_reducible refine Below.alloc ?_ ?_ _); rotate_left; · (first | exact Nat.le_refl _ | (simp; done) | (simp; omega) | omega)) | (with_reducible apply Below.drew) | (with_reducible apply below_drewN') | (refine Below.trans ?_ (Below.mono (by assumption) (by first | exact Nat.le_refl _ | (simp; done) | (simp; omega) | omega))) | exact Below.refl _ _ | assumption))
  go_enter Tryz.func8, Tryz.ntmps8
  go_wp2
  obtain ⟨W, hW⟩ : ∃ W, (w.alloc (.cells (mkC m) 25)).alloc (.cells #[.int .i64 m.al, .int .i64 m.ah, .int .i64 m.dl, .int .i64 m.dh, .int .i64 m.lv] 82) = W := ⟨_, rfl⟩
  rw [hW] at a1 hBB ⊢
  clear c0 c1 c2 c3 c4 c5 f0 b0 hW
  go_loopw [3, 5] (fun s3 s5 wr => ∃ k : Nat, s3 = .string (markTx m k) ∧ s5 = .int .i64 k ∧ k ≤ 5 ∧ Blk wr (w.heap.size + 1) 82 #[.int .i64 m.al, .int .i64 m.ah, .int .i64 m.dl, .int .i64 m.dh, .int .i64 m.lv] ∧ Below w.heap.size w wr) (fun _ s5 _ => 5 - (intOf s5).toNat)
  case atStart => exact ⟨0, by rw [markTx_zero], rfl, by omega, a1, hBB⟩
  case round =>
    clear a1 hBB W
    obtain ⟨k, rfl, rfl, hk, b1, hBB⟩ := hrel
    have hzB := Below.size hBB
    by_cases hlt : k < 5
    · have hlI : (k : Int) < 5 := by omega
      have hkl : k < (markN m).length := by simp [markN]; omega
      have hv := hI.out _ (List.getElem_mem hkl)
      have c1 : wr.cell? ⟨w.heap.size + 1, k, none⟩ = some (.int .i64 (markN m)[k]) := by
        rw [b1.cell k]
        rcases (by omega : k = 0 ∨ k = 1 ∨ k = 2 ∨ k = 3 ∨ k = 4) with rfl | rfl | rfl | rfl | rfl <;> rfl
      have HN := Lib.hid (markTx_succ m hkl)
      have hsz := markTx_size m hI.out k
      have hsz2 := itoa_size _ hv.1 hv.2
      have hsz3 : (strB (itoa (markN m)[k])).size = (itoa (markN m)[k]).length := strB_size _
      generalize (markN m)[k] = n at *
      have lt1 := b1.lt
      generalize markTx m k = tx at *
      go_wp2_with (go_at_call 28; (with_reducible refine (decimal_all _ hv.1 hv.2 _).mono ?_); rintro e w4 ⟨rfl, hB4⟩)
      have b2 := b1.below hB4 lt1
      exact ⟨⟨k + 1, by rw [HN.out]; rfl, by go_num, by omega, b2, hBB.trans (hB4.mono hzB)⟩, by simp [intOf]; omega⟩
    · obtain rfl : k = 5 := by omega
      rw [markTx_done]
      go_wp2
      go_ret
      exact ⟨rfl, hBB⟩

theorem own_strs_at {w : World} {B g cap n : Nat} {xs : List ByteArray} (h : w.ownsRow B 9 1 (.slice (some ⟨g, 0, none⟩) n cap) xs.length (strsC xs)) {j : Nat} (hj : j < xs.length) : w.cell? ⟨g, j, none⟩ = some (.string xs[j]) ∧ g < w.heap.size ∧ B ≤ g := by
  obtain ⟨hl, h | ⟨g', cap', cur, hv, hb, hh, hcap, hmax, hsz, htk⟩⟩ := h
  · exact absurd h.1 (by simp)
  · obtain ⟨rfl, rfl, rfl⟩ : g = g' ∧ n = xs.length ∧ cap = cap' := by
      injection hv with h1 h2 h3
      injection h1 with h1
      injection h1 with h1
      exact ⟨h1, h2, h3⟩
    have hg : g < w.heap.size := by
      rcases Nat.lt_or_ge g w.heap.size with h' | h'
      · exact h'
      · rw [Array.getElem?_eq_none h'] at hh; cases hh
    refine ⟨?_, hg, hb⟩
    have e1 : w.cell? ⟨g, j, none⟩ = cur[j]? := by simp [World.cell?, hh]
    rw [e1]
    have e2 := congrArg (·[j]?) htk
    simp only [List.getElem?_take, Array.getElem?_toList] at e2
    rw [if_pos (by omega)] at e2
    rw [e2, strsC_at hj]
def nsA (ns : List Int) : Array Value := #[.int .i64 (ns.getD 0 0), .int .i64 (ns.getD 1 0), .int .i64 (ns.getD 2 0), .int .i64 (ns.getD 3 0), .int .i64 (ns.getD 4 0)]
theorem nsA_set {k : Nat} {ns : List Int} (hk : ns.length = k) (h5 : k < 5) (v : Int) : (nsA ns).setIfInBounds k (.int .i64 v) = nsA (ns ++ [v]) := by
  subst hk
  match ns, h5 with
  | [], _ => rfl
  | [_], _ => rfl
  | [_, _], _ => rfl
  | [_, _, _], _ => rfl
  | [_, _, _, _], _ => rfl
theorem own_slice {w : World} {B t n : Nat} {v : Value} {xs : List Value} (h : w.ownsRow B t 1 v n xs) (hn : 0 < n) : ∃ g cap, v = .slice (some ⟨g, 0, none⟩) n cap := by
  obtain ⟨k, rfl⟩ : ∃ k, n = k + 1 := ⟨n - 1, by omega⟩
  exact ownsRow_succ h
set_option maxRecDepth 100000 in
set_option maxHeartbeats 8000000 in
theorem refParseMark_any (s : ByteArray) (hs : s.size ≤ 1000) (w : World) : Calls Tryz.prog 7 #[.string s] w fun e w' => e = .returned (.tuple #[.agg (mkC (markP s).1), .int .i64 (markP s).2]) ∧ Below w.heap.size w w' := by
  obtain ⟨hn0, hnm⟩ := nmOf_at s
  have hnms := nmOf_size s
  have HLEN : Hid (∀ h : (cutL 32 s.data.toList).length ≠ 6, markP s = (mkZ, 7)) := Lib.hid fun h => markP_len h
  have HLINE : Hid (∀ h : (10 : UInt8) ∈ (nmOf s).data.toList, markP s = (mkZ, 7)) := Lib.hid fun h => markP_line h
  obtain ⟨q, hq⟩ : ∃ q, markP s = q := ⟨_, rfl⟩
  rw [hq] at HLEN HLINE ⊢
  have HQ := Lib.hid hq; clear hq
  have HN := Lib.hid hnm; clear hnm
  have hwl := cutB_len s 32
  have HWL := Lib.hid hwl
  rw [← hwl] at hn0
  clear hwl
  have b0 := Blk.new w 25 (mkC mkZ)
  have hB0 : Below w.heap.size w (w.alloc (.cells (mkC mkZ) 25)) := (by repeat (first | (with_reducible exact Below.refl _ _) | (with_reducible assumption) | ((with_reducible refine Below.setCell ?_ ?_ _); rotate_left; · (first | exact Nat.le_refl _ | (simp; done) | (simp; omega) | omega)) | ((with_reducible refine Below.alloc ?_ ?_ _); rotate_left; · (first | exact Nat.le_refl _ | (simp; done) | (simp; omega) | omega)) | (with_reducible apply Below.drew) | (with_reducible apply below_drewN') | (refine Below.trans ?_ (Below.mono (by assumption) (by first | exact Nat.le_refl _ | (simp; done) | (simp; omega) | omega))) | exact Below.refl _ _ | assumption))
  go_enter Tryz.func7, Tryz.ntmps7
  go_wp2_with fail
  refine (cut_any s 32 (by omega) _).mono ?_
  rintro e w1 ⟨v1, rfl, own1, hB1⟩
  have lt0 := b0.lt
  replace b0 := b0.below hB1 lt0
  have hz0 := Below.size hB1
  have hBB : Below w.heap.size w w1 := hB0.trans (hB1.mono (by simp))
  obtain ⟨g1, cap1, rfl⟩ := own_slice own1 hn0
  have HO1 := Lib.hid own1
  obtain ⟨n0, lt1, hg1⟩ := own_strs_at own1 hn0
  simp only [World.size_alloc] at hg1
  clear own1 hB1 hB0 hz0
  have n0' : w1.cell? ⟨g1, 0, none⟩ = some (.string (nmOf s)) := by
    rw [n0, ← HN.out]
    simp [cutB_eq]
  clear n0
  replace lt0 := b0.lt
  have hcl := (cutB_len (nmOf s) 10)
  have hc1 := cutL_one 10 (nmOf s).data.toList
  have hcp : 0 < (cutB 10 (nmOf s)).length := by rw [hcl]; exact Nat.pos_of_ne_zero fun e => cutL_ne 10 _ (List.eq_nil_of_length_eq_zero e)
  have HC1 : Hid (decide ((1 : Int) < ((cutB 10 (nmOf s)).length : Int)) = decide ((10 : UInt8) ∈ (nmOf s).data.toList)) := Lib.hid (by
    rw [← hcl] at hc1
    by_cases e : (10 : UInt8) ∈ (nmOf s).data.toList
    · rw [decide_eq_true e, decide_eq_true_eq]
      have : ¬ (cutB 10 (nmOf s)).length = 1 := fun e2 => hc1.1 e2 e
      omega
    · rw [decide_eq_false e, decide_eq_false_iff_not]
      have := hc1.2 e
      omega)
  have HCP := Lib.hid hcp
  clear hcl hc1 hcp
  by_cases h6 : (cutB 32 s).length = 6
  · have h6' : (((cutB 32 s).length : Int) != 6) = false := by rw [h6]; rfl
    have h6L : (cutL 32 s.data.toList).length = 6 := by rw [← HWL.out]; exact h6
    have H6L := Lib.hid h6L; clear h6L
    by_cases hl : (10 : UInt8) ∈ (nmOf s).data.toList
    · have HE := Lib.hid (HLINE.out hl)
      have g1l := HC1.out
      rw [decide_eq_true hl] at g1l
      clear hl
      go_wp2_with (go_at_call 26; refine (cut_any (nmOf s) 10 (by omega) _).mono ?_; rintro e w2 ⟨v2, rfl, own2, hB2⟩; have b0' := b0.below hB2 lt0; have hO1 := own_below HO1.out hB2; have hBB' := hBB.trans (hB2.mono (Below.size hBB)); have hzz := Below.size hB2; obtain ⟨g2, cap2, rfl⟩ := own_slice own2 HCP.out; have lt0' := b0'.lt; have f0 := b0'.frozen; obtain ⟨c0, c1, c2, c3, c4, c5, _⟩ := blk6 b0'; clear own2 hB2 b0 hBB n0')
      have z0 := blk_put6 b0' (.string ⟨#[]⟩) (.int .i64 0) (.int .i64 0) (.int .i64 0) (.int .i64 0) (.int .i64 0)
      obtain ⟨u0, u1, u2, u3, u4, u5, _⟩ := blk6 z0
      have below_ := set6_below hBB' (g := w.heap.size) (Nat.le_refl _) (.string ⟨#[]⟩) (.int .i64 0) (.int .i64 0) (.int .i64 0) (.int .i64 0) (.int .i64 0)
      exact bodyPost_ret (v := .tuple #[.agg #[.string ⟨#[]⟩, .int .i64 0, .int .i64 0, .int .i64 0, .int .i64 0, .int .i64 0], .int .i64 7]) (by simp [results, Tryz.results7, go_sem, u0, u1, u2, u3, u4, u5]) rfl ⟨by rw [HE.out]; rfl, below_⟩
    · have g1l := HC1.out
      rw [decide_eq_false hl] at g1l
      have HNL := Lib.hid hl; clear hl
      go_wp2_with (go_at_call 26; refine (cut_any (nmOf s) 10 (by omega) _).mono ?_; rintro e w2 ⟨v2, rfl, own2, hB2⟩; have b0' := b0.below hB2 lt0; have hO1 := own_below HO1.out hB2; have hBB' := hBB.trans (hB2.mono (Below.size hBB)); have hzz := Below.size hB2; obtain ⟨g2, cap2, rfl⟩ := own_slice own2 HCP.out; have lt0' := b0'.lt; clear own2 hB2 b0 hBB n0')
      have hz2 := Below.size hBB'
      have b0'' := b0'.alloc (.cells (nsA []) 82)
      have hO2 := hO1.alloc (.cells (nsA []) 82)
      have b5 := Blk.new w2 82 (nsA [])
      have hBB2 := hBB'.alloc hz2 (.cells (nsA []) 82)
      obtain ⟨g5, hg5⟩ : ∃ g5, w2.heap.size = g5 := ⟨_, rfl⟩
      obtain ⟨W, hW⟩ : ∃ W, w2.alloc (.cells (nsA []) 82) = W := ⟨_, rfl⟩
      rw [hW] at b0'' hO2 b5 hBB2
      rw [show nsA [] = #[.int .i64 0, .int .i64 0, .int .i64 0, .int .i64 0, .int .i64 0] from rfl] at hW
      rw [hW, hg5]
      rw [hg5] at b5 lt0' hz2
      have l15 : g1 < g5 := by rw [← hg5]; exact Nat.lt_of_lt_of_le lt1 hzz
      have HLT := Lib.hid lt0'
      clear hW hg5 b0' hO1 hBB' hzz
      go_loopw [6] (fun s6 wr => ∃ (k : Nat) (ns : List Int), s6 = .int .i64 k ∧ k ≤ 5 ∧ Hid (ParS s k ns) ∧ Blk wr w.heap.size 25 (mkC mkZ) ∧ wr.ownsRow (w.heap.size + 1) 9 1 (.slice (some ⟨g1, 0, none⟩) (cutB 32 s).length cap1) (cutB 32 s).length (strsC (cutB 32 s)) ∧ Blk wr g5 82 (nsA ns) ∧ Below w.heap.size w wr) (fun s6 _ => 5 - (intOf s6).toNat)
      case atStart => exact ⟨0, [], rfl, by omega, Lib.hid (ParS.start s), b0'', by simpa using hO2, b5, hBB2⟩
      case round =>
        clear b0'' hO2 b5 hBB2 W lt0' lt0 lt1
        obtain ⟨k, ns, rfl, hk, HP, b0, own, b5, hBB⟩ := hrel
        have hzB := Below.size hBB
        have HOW := Lib.hid own
        by_cases hlt : k < 5
        · have hlI : (k : Int) < 5 := by omega
          have hkl : k + 1 < (cutL 32 s.data.toList).length := by rw [H6L.out]; omega
          have hkb : k + 1 < (cutB 32 s).length := by omega
          obtain ⟨cx, lt1, _⟩ := own_strs_at own hkb
          have ex : (cutB 32 s)[k + 1] = strB (cutL 32 s.data.toList)[k + 1] := by simp [cutB_eq]
          rw [ex] at cx
          have HX0 : Hid (numL 10 (cutL 32 s.data.toList)[k + 1] = none → q = (mkZ, 7)) := Lib.hid fun h => by rw [← HQ.out]; exact markP_bad hkl h
          have HX1 : Hid (∀ v, numL 10 (cutL 32 s.data.toList)[k + 1] = some v → ParS s (k + 1) (ns ++ [v])) := Lib.hid fun v h => HP.out.next hkl h
          have hxs : (cutL 32 s.data.toList)[k + 1].length ≤ 1000 := Nat.le_trans (cutL_size 32 _ _ (List.getElem_mem hkl)) (by rw [size_list]; exact hs)
          clear ex own
          generalize (cutL 32 s.data.toList)[k + 1] = x at *
          have hxb : (strB x).size ≤ 1000000 := by rw [strB_size]; omega
          have hnb := number_any (strB x) 10 (by decide) hxb
          rw [strB_data] at hnb
          cases hnum : numL 10 x with
          | none =>
            rw [hnum] at hnb
            have HE := Lib.hid (HX0.out hnum)
            have HNB := Lib.hid hnb
            clear hnb hnum HX0 HX1
            have f0 := b0.frozen
            obtain ⟨c0, c1, c2, c3, c4, c5, _⟩ := blk6 b0
            have lt0 := b0.lt
            go_wp2_with (go_at_call 27; refine (HNB.out _).mono ?_; rintro e w4 ⟨rfl, rfl⟩; unfold numO)
            have z0 := blk_put6 b0 (.string ⟨#[]⟩) (.int .i64 0) (.int .i64 0) (.int .i64 0) (.int .i64 0) (.int .i64 0)
            obtain ⟨u0, u1, u2, u3, u4, u5, _⟩ := blk6 z0
            have below_ := set6_below hBB (g := w.heap.size) (Nat.le_refl _) (.string ⟨#[]⟩) (.int .i64 0) (.int .i64 0) (.int .i64 0) (.int .i64 0) (.int .i64 0)
            exact bodyPost_ret (v := .tuple #[.agg #[.string ⟨#[]⟩, .int .i64 0, .int .i64 0, .int .i64 0, .int .i64 0, .int .i64 0], .int .i64 7]) (by simp [results, Tryz.results7, go_sem, u0, u1, u2, u3, u4, u5]) rfl ⟨by rw [HE.out]; rfl, below_⟩
          | some v =>
            rw [hnum] at hnb
            have HN2 := Lib.hid (HX1.out v hnum)
            have HNB := Lib.hid hnb
            clear hnb hnum HX0 HX1
            have hlt5 := HLT.out
            have f5 := b5.frozen k
            have lt5 := b5.lt
            have e5 : ∃ u, wr.cell? ⟨g5, k, none⟩ = some u := by
              rw [b5.cell k]
              exact ⟨_, Array.getElem?_eq_getElem (by show k < 5; omega)⟩
            obtain ⟨u5, e5⟩ := e5
            have hset := b5.set_ k (.int .i64 v)
            rw [nsA_set HP.out.1 hlt v] at hset
            have HF0 := Lib.hid (b0.far (p := ⟨g5, k, none⟩) (by simp; omega) (.int .i64 v))
            have HF1 := Lib.hid (ownsRow_setCell_other HOW.out (a := ⟨g5, k, none⟩) (by simp [Value.ownBlock]; omega) (.int .i64 v))
            have HF2 := Lib.hid hset
            have HBS := Lib.hid (hBB.setCell (p := ⟨g5, k, none⟩) (by simp; omega) (.int .i64 v))
            clear b0 hset b5 HOW
            go_wp2_with (go_at_call 27; refine (HNB.out _).mono ?_; rintro e w4 ⟨rfl, rfl⟩; unfold numO)
            exact ⟨⟨k + 1, _, by go_num, by omega, HN2, HF0.out, HF1.out, HF2.out, HBS.out⟩, by simp [intOf]; omega⟩
        · obtain rfl : k = 5 := by omega
          have n0 := (own_strs_at own hn0).1
          have lt1 := (own_strs_at own hn0).2.1
          have n0' : wr.cell? ⟨g1, 0, none⟩ = some (.string (nmOf s)) := by
            rw [n0, ← HN.out]
            simp [cutB_eq]
          clear n0 own
          have HM : Hid (q = if markE (mkOf (nmOf s) ns) = 0 then (mkOf (nmOf s) ns, 0) else (mkZ, markE (mkOf (nmOf s) ns))) := Lib.hid (by rw [← HQ.out, markP_done H6L.out HNL.out HP.out])
          obtain ⟨M, hM⟩ : ∃ M, mkOf (nmOf s) ns = M := ⟨_, rfl⟩
          have hMn : M.nm.size ≤ 1000000000000 := by rw [← hM]; show (nmOf s).size ≤ _; omega
          have hA : nsA ns = #[.int .i64 M.al, .int .i64 M.ah, .int .i64 M.dl, .int .i64 M.dh, .int .i64 M.lv] := by rw [← hM]; rfl
          have hNM : nmOf s = M.nm := by rw [← hM]; rfl
          rw [hM] at HM
          rw [hA] at b5
          rw [hNM] at n0'
          obtain ⟨ev, hev⟩ : ∃ ev, markE M = ev := ⟨_, rfl⟩
          have HME : Hid (∀ W', Calls Tryz.prog 9 #[.agg (mkC M)] W' fun e w' => e = .returned (.int .i64 ev) ∧ Below W'.heap.size W' w') := Lib.hid fun W' => by rw [← hev]; exact refMarkErr_any M hMn W'
          rw [hev] at HM
          clear hM hev hMn hA hNM
          have lt0 := b0.lt
          go_upto_region 12 with fail
          refine refParReg12 M n0' lt1 b5 _ _ ?_
          intro t44 t45 t46 t47 t48 t49 t50 t51 t52 t53 t54 t55 t56 t57 t58 t59 p w5 hS5 hp b9
          replace b0 := b0.gr hS5
          replace hBB := hBB.trans (Below.mono hS5 hzB)
          replace lt0 := b0.lt
          have lt9 := b9.lt
          have HB9 := Lib.hid b9
          have HzB := Below.size hBB
          clear b5 lt1 n0' hS5 hzB HOW
          obtain ⟨d0, d1, d2, d3, d4, d5, _⟩ := blk6 b9
          clear b9
          try dsimp only
          by_cases hE0 : ev = 0
          · subst hE0
            have HQM : Hid (q = (M, 0)) := Lib.hid (by rw [HM.out, if_pos rfl])
            go_wp2_with (go_at_call 9; refine (HME.out _).mono ?_; rintro e w6 ⟨rfl, hB6⟩; have b0' := b0.below hB6 lt0; have b9' := HB9.out.below hB6 lt9; have f0 := b0'.frozen; have hBB' := hBB.trans (hB6.mono HzB); have lt0' := b0'.lt; have lt9' := b9'.lt; clear d0 d1 d2 d3 d4 d5 lt0 lt9 b0 hBB hB6; obtain ⟨c0, c1, c2, c3, c4, c5, _⟩ := blk6 b0'; obtain ⟨d0, d1, d2, d3, d4, d5, _⟩ := blk6 b9')
            have z0 := blk_put6 b0' (.string M.nm) (.int .i64 M.al) (.int .i64 M.ah) (.int .i64 M.dl) (.int .i64 M.dh) (.int .i64 M.lv)
            obtain ⟨u0, u1, u2, u3, u4, u5, _⟩ := blk6 z0
            have below_ := set6_below hBB' (g := w.heap.size) (Nat.le_refl _) (.string M.nm) (.int .i64 M.al) (.int .i64 M.ah) (.int .i64 M.dl) (.int .i64 M.dh) (.int .i64 M.lv)
            exact bodyPost_ret (v := .tuple #[.agg #[.string M.nm, .int .i64 M.al, .int .i64 M.ah, .int .i64 M.dl, .int .i64 M.dh, .int .i64 M.lv], .int .i64 0]) (by simp [results, Tryz.results7, go_sem, u0, u1, u2, u3, u4, u5]) rfl ⟨by rw [HQM.out], by first | exact below_ | exact below_.drew | exact (by repeat (first | (with_reducible exact Below.refl _ _) | (with_reducible assumption) | ((with_reducible refine Below.setCell ?_ ?_ _); rotate_left; · (first | exact Nat.le_refl _ | (simp; done) | (simp; omega) | omega)) | ((with_reducible refine Below.alloc ?_ ?_ _); rotate_left; · (first | exact Nat.le_refl _ | (simp; done) | (simp; omega) | omega)) | (with_reducible apply Below.drew) | (with_reducible apply below_drewN') | (refine Below.trans ?_ (Below.mono (by assumption) (by first | exact Nat.le_refl _ | (simp; done) | (simp; omega) | omega))) | exact Below.refl _ _ | assumption))⟩
          · have HQM : Hid (q = (mkZ, ev)) := Lib.hid (by rw [HM.out, if_neg hE0])
            have hEn : (ev != 0) = true := by rw [bne_iff_ne]; exact hE0
            have hEz : (ev == 0) = false := beq_eq_false_iff_ne.2 hE0
            clear hE0
            go_wp2_with (go_at_call 9; refine (HME.out _).mono ?_; rintro e w6 ⟨rfl, hB6⟩; have b0' := b0.below hB6 lt0; have f0 := b0'.frozen; have hBB' := hBB.trans (hB6.mono HzB); have lt0' := b0'.lt; clear d0 d1 d2 d3 d4 d5 lt0 lt9 b0 hBB hB6; obtain ⟨c0, c1, c2, c3, c4, c5, _⟩ := blk6 b0')
            have z0 := blk_put6 b0' (.string ⟨#[]⟩) (.int .i64 0) (.int .i64 0) (.int .i64 0) (.int .i64 0) (.int .i64 0)
            obtain ⟨u0, u1, u2, u3, u4, u5, _⟩ := blk6 z0
            have below_ := set6_below hBB' (g := w.heap.size) (Nat.le_refl _) (.string ⟨#[]⟩) (.int .i64 0) (.int .i64 0) (.int .i64 0) (.int .i64 0) (.int .i64 0)
            exact bodyPost_ret (v := .tuple #[.agg #[.string ⟨#[]⟩, .int .i64 0, .int .i64 0, .int .i64 0, .int .i64 0, .int .i64 0], .int .i64 ev]) (by simp [results, Tryz.results7, go_sem, u0, u1, u2, u3, u4, u5]) rfl ⟨by rw [HQM.out]; rfl, by first | exact below_ | exact below_.drew | exact (by repeat (first | (with_reducible exact Below.refl _ _) | (with_reducible assumption) | ((with_reducible refine Below.setCell ?_ ?_ _); rotate_left; · (first | exact Nat.le_refl _ | (simp; done) | (simp; omega) | omega)) | ((with_reducible refine Below.alloc ?_ ?_ _); rotate_left; · (first | exact Nat.le_refl _ | (simp; done) | (simp; omega) | omega)) | (with_reducible apply Below.drew) | (with_reducible apply below_drewN') | (refine Below.trans ?_ (Below.mono (by assumption) (by first | exact Nat.le_refl _ | (simp; done) | (simp; omega) | omega))) | exact Below.refl _ _ | assumption))⟩
  · have HE := Lib.hid (HLEN.out (by rw [← HWL.out]; exact h6))
    have h6' : (((cutB 32 s).length : Int) != 6) = true := by rw [bne_iff_ne]; omega
    have f0 := b0.frozen
    obtain ⟨c0, c1, c2, c3, c4, c5, _⟩ := blk6 b0
    clear n0'
    go_wp2
    have z0 := blk_put6 b0 (.string ⟨#[]⟩) (.int .i64 0) (.int .i64 0) (.int .i64 0) (.int .i64 0) (.int .i64 0)
    obtain ⟨u0, u1, u2, u3, u4, u5, _⟩ := blk6 z0
    have below_ := set6_below hBB (g := w.heap.size) (Nat.le_refl _) (.string ⟨#[]⟩) (.int .i64 0) (.int .i64 0) (.int .i64 0) (.int .i64 0) (.int .i64 0)
    exact bodyPost_ret (v := .tuple #[.agg #[.string ⟨#[]⟩, .int .i64 0, .int .i64 0, .int .i64 0, .int .i64 0, .int .i64 0], .int .i64 7]) (by simp [results, Tryz.results7, go_sem, u0, u1, u2, u3, u4, u5]) rfl ⟨by rw [HE.out]; rfl, below_⟩
end Go.Proofs.YtjimdnmdnjhnjaaGreatDoor
