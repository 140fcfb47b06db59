/- Contracts: where the numbers of a mark stand; the text of a mark (flaw.FormatMark). -/
import Derived.Test.YtjimdnmdnjhnjaaGreatDoorZgFcP
import Derived.Test.YtjimdnmdnjhnjaaGreatDoorFtA
import Derived.Test.YtjimdnmdnjhnjaaGreatDoorTxL
import Derived.BigRegion
namespace Go.Proofs.YtjimdnmdnjhnjaaGreatDoor
open Go.RowKit Go.Lib

abbrev ptr (b o : Nat) : Value := .pointer (some ⟨b, o, none⟩)
set_option maxRecDepth 100000 in
set_option maxHeartbeats 1000000 in
theorem numbersOf_any (b : Nat) (w : World) : Calls Tryz.prog 18 #[ptr b 0] w fun e w' => e = .returned (.agg #[ptr b 1, ptr b 2, ptr b 3, ptr b 4, ptr b 5]) ∧ Below w.heap.size w w' := by
  have bn := Blk.new w 68 #[ptr b 1, ptr b 2, ptr b 3, ptr b 4, ptr b 5]
  go_enter Tryz.func18, Tryz.ntmps18
  go_upto_region 1 with fail
  go_region
  go_wp2
  exact bodyPost_ret (v := .agg #[ptr b 1, ptr b 2, ptr b 3, ptr b 4, ptr b 5]) (by simp [results, Tryz.results18, go_sem]) rfl ⟨rfl, (by repeat (first | (with_reducible exact Below.refl _ _) | (with_reducible assumption) | ((with_reducible refine Below.setCell ?_ ?_ _); rotate_left; · (first | exact Nat.le_refl _ | (simp; done) | (simp; omega) | omega)) | ((with_reducible refine Below.alloc ?_ ?_ _); rotate_left; · (first | exact Nat.le_refl _ | (simp; done) | (simp; omega) | omega)) | (with_reducible apply Below.drew) | (with_reducible apply below_drewN') | (refine Below.trans ?_ (Below.mono (by assumption) (by first | exact Nat.le_refl _ | (simp; done) | (simp; omega) | omega))) | exact Below.refl _ _ | assumption))⟩

def markI (m : Mk) : Prop := ∀ v ∈ markN m, -9223372036854775808 ≤ v ∧ v ≤ 9223372036854775807
def markWB (m : Mk) (k : Nat) : List ByteArray := m.nm :: ((markN m).take k).map fun n => strB (itoa n)
theorem markWB_all (m : Mk) : (markWB m 5).map (·.data.toList) = markW m := by
  unfold markWB markW
  rw [List.take_of_length_le (by simp [markN]), List.map_cons, List.map_map]
  rfl
theorem markWB_succ (m : Mk) {k : Nat} (h : k < (markN m).length) : markWB m (k + 1) = markWB m k ++ [strB (itoa (markN m)[k])] := by
  unfold markWB
  rw [List.take_add_one, List.getElem?_eq_getElem h, List.map_append]
  rfl
theorem markWB_length (m : Mk) {k : Nat} (h : k ≤ 5) : (markWB m k).length = k + 1 := by
  unfold markWB
  rw [List.length_cons, List.length_map, List.length_take]
  simp [markN]; omega
theorem join_len (c : UInt8) : ∀ (ws : List (List UInt8)), (join ws [c]).length ≤ (ws.map (·.length + 1)).sum
  | [] => by simp [join, List.intercalate]
  | [x] => by simp [join, List.intercalate]
  | x :: y :: ws => by
    have : join (x :: y :: ws) [c] = x ++ c :: join (y :: ws) [c] := by simp [join, List.intercalate, List.intersperse]
    rw [this]
    have ih := join_len c (y :: ws)
    simp only [List.length_append, List.length_cons, List.map_cons, List.sum_cons] at ih ⊢
    omega
theorem markT_len (m : Mk) (h : markI m) : (join (markW m) [32]).length ≤ m.nm.size + 106 := by
  refine Nat.le_trans (join_len 32 _) ?_
  have hi := fun v hv => itoa_size v (h v hv).1 (h v hv).2
  have h0 := hi m.al (by simp [markN]); have h1 := hi m.ah (by simp [markN]); have h2 := hi m.dl (by simp [markN]); have h3 := hi m.dh (by simp [markN]); have h4 := hi m.lv (by simp [markN])
  simp only [markW, markN, List.map_cons, List.map_nil, List.sum_cons, List.sum_nil, size_list]
  omega
/-- Where a mark's numbers stand. -/
theorem mark_at {w : World} {b : Nat} {m : Mk} (h : Blk w b 25 (mkC m)) {k : Nat} (hk : k < 5) : w.cell? ⟨b, k + 1, none⟩ = some (.int .i64 ((markN m)[k]'(by simpa [markN] using hk))) := by
  have := h.cell (k + 1)
  match k, hk with
  | 0, _ => exact h.cell 1
  | 1, _ => exact h.cell 2
  | 2, _ => exact h.cell 3
  | 3, _ => exact h.cell 4
  | 4, _ => exact h.cell 5
set_option maxRecDepth 100000 in
theorem index_ptr (b : Nat) {k : Nat} (hk : k < 5) (w : World) : (Instr.index 68 (.agg #[ptr b 1, ptr b 2, ptr b 3, ptr b 4, ptr b 5]) (.int .i64 k)).run Tryz.prog w = .ok (ptr b (k + 1)) w := by
  rcases (by omega : k = 0 ∨ k = 1 ∨ k = 2 ∨ k = 3 ∨ k = 4) with rfl | rfl | rfl | rfl | rfl
  · exact (by kernel_rfl)
  · exact (by kernel_rfl)
  · exact (by kernel_rfl)
  · exact (by kernel_rfl)
  · exact (by kernel_rfl)
theorem own_strs (w : World) (base : Nat) (x : ByteArray) (hb : base ≤ w.heap.size) : (w.alloc (.cells #[.string x] 9)).ownsRow base 9 1 (.slice (some ⟨w.heap.size, 0, none⟩) 1 1) 1 (strsC [x]) :=
  ⟨rfl, .inr ⟨w.heap.size, 1, #[.string x], rfl, hb, heap_alloc_new w _, Nat.le_refl _, by decide, rfl, rfl⟩⟩
set_option maxRecDepth 100000 in
set_option maxHeartbeats 1000000 in
theorem formatMark_any (m : Mk) (hI : Hid (markI m)) (hs : m.nm.size ≤ 1000) (w : World) (hL : LibW w) : Calls Tryz.prog 5 #[.agg (mkC m)] w fun e w' => e = .returned (.string (markT m)) ∧ Below w.heap.size w w' := by
  have HL := Lib.hid hL; clear hL
  have b0 := Blk.new w 25 (mkC m)
  have hB0 : Below w.heap.size w (w.alloc (.cells (mkC m) 25)) := (by repeat (first | (with_reducible exact Below.refl _ _) | (with_reducible assumption) | ((with_reducible refine Below.setCell ?_ ?_ _); rotate_left; · (first | exact Nat.le_refl _ | (simp; done) | (simp; omega) | omega)) | ((with_reducible refine Below.alloc ?_ ?_ _); rotate_left; · (first | exact Nat.le_refl _ | (simp; done) | (simp; omega) | omega)) | (with_reducible apply Below.drew) | (with_reducible apply below_drewN') | (refine Below.trans ?_ (Below.mono (by assumption) (by first | exact Nat.le_refl _ | (simp; done) | (simp; omega) | omega))) | exact Below.refl _ _ | assumption))
  obtain ⟨c0, _⟩ := blk6 b0
  obtain ⟨i0, hi0, hz0, hz1, hz2⟩ := info_parts infoStr
  go_enter Tryz.func5, Tryz.ntmps5
  go_wp2_with fail
  refine (numbersOf_any _ _).mono ?_
  rintro e w1 ⟨rfl, hB1⟩
  have b1 := (b0.alloc (.cells #[.string m.nm] 9)).below hB1 (by simp; omega)
  have own0 := own_strs (w.alloc (.cells (mkC m) 25)) w.heap.size m.nm (by simp)
  simp only [World.size_alloc] at own0
  have own1 := own_below own0 hB1
  have hBB : Below w.heap.size w w1 := (hB0.alloc (by simp) _).trans (hB1.mono (by simp; omega))
  clear b0 hB0 own0 hB1 c0
  go_wp2
  go_loopw [3, 10] (fun s3 s10 wr => ∃ (k : Nat) (v : Value), s3 = v ∧ s10 = .int .i64 k ∧ k ≤ 5 ∧ wr.ownsRow w.heap.size 9 1 v (markWB m k).length (strsC (markWB m k)) ∧ Blk wr w.heap.size 25 (mkC m) ∧ Below w.heap.size w wr) (fun _ s10 _ => 5 - (intOf s10).toNat)
  case atStart => exact ⟨0, _, rfl, rfl, by omega, own1, b1, hBB⟩
  case round =>
    clear own1 b1 hBB
    obtain ⟨k, v, rfl, rfl, hk, hown, hb, hBB⟩ := hrel
    have hzB := Below.size hBB
    by_cases hlt : k < 5
    · have hlI : (k : Int) < 5 := by omega
      have hp := index_ptr w.heap.size hlt wr
      have c1 := mark_at hb hlt
      have hlw := HL.out.below hBB (Nat.le_refl _)
      have hkl : k < (markN m).length := by simp [markN]; omega
      have hv := hI.out _ (List.getElem_mem hkl)
      have HW : Hid (strsC (markWB m (k + 1)) = strsC (markWB m k) ++ [.string (strB (itoa (markN m)[k]))] ∧ (markWB m (k + 1)).length = (markWB m k).length + 1) := Lib.hid (by rw [markWB_succ m hkl, strsC_succ, List.length_append]; exact ⟨rfl, rfl⟩)
      have HWl : Hid ((markWB m k).length = k + 1) := Lib.hid (markWB_length m hk)
      generalize (markN m)[k] = n at *
      have HLW := Lib.hid hlw; clear hlw
      go_wp2_with (first
        | (go_at_call 19; (with_reducible refine (itoa_any _ hv.1 hv.2 _ HLW.out).mono ?_); rintro e w2 ⟨rfl, hB2⟩; have hb2 := hb.below hB2 hb.lt; have hzw2 := Below.size hB2; have hown2 := own_below hown hB2; have hOo := hown2.alloc (.cells #[.string (strB (itoa n))] 9); have hBo := (hBB.trans (hB2.mono hzB)).alloc (Nat.le_trans hzB hzw2) (.cells #[.string (strB (itoa n))] 9))
        | (at_builtin; refine wpList_append_own _ rfl _ _ 66 rfl w.heap.size 9 i0 _ 1 16 Tryz.underlying66 hi0 hz0 hz1 hz2 rfl (by decide) _ _ _ rfl hOo ⟨w2.heap.size, 0, none⟩ 1 1 [.string (strB (itoa n))] rfl rfl (cell_one_new _ _ _) (by simp [Value.oneCell']) (by have := HWl.out; unfold maxLen; omega) (by have := HWl.out; omega) (by first | omega | (simp; done) | (simp; omega)) ?_; intro v2 W5 hown' hgrow _))
      have hown3 : W5.ownsRow w.heap.size 9 1 v2 (markWB m (k + 1)).length (strsC (markWB m (k + 1))) := by
        rw [HW.out.1, HW.out.2]; exact hown'
      have hb3 := (hb2.alloc (.cells #[.string (strB (itoa n))] 9)).grown hgrow (fun e => own_blk_ne hOo (hb2.alloc (.cells #[.string (strB (itoa n))] 9)) (by decide) e.symm)
      exact ⟨⟨k + 1, v2, rfl, by go_num, by omega, hown3, hb3, below_own hBo (Nat.le_refl _) hOo hgrow⟩, by simp [intOf]; omega⟩
    · obtain rfl : k = 5 := by omega
      have HJ : Hid (strB (join ((markWB m 5).map (·.data.toList)) [32]) = markT m) := Lib.hid (by rw [markWB_all]; rfl)
      have hj := join_own (markWB m 5) 32 _ w.heap.size wr hown (by simp [markWB]) (by rw [markWB_all]; have := markT_len m hI.out; omega) (by rw [markWB_length m (Nat.le_refl 5)]; omega)
      have HJJ := Lib.hid hj; clear hj
      go_wp2_with (go_at_call 20; refine HJJ.out.mono ?_; rintro e w3 ⟨rfl, hB3⟩)
      go_ret
      exact ⟨by rw [HJ.out]; rfl, hBB.trans (hB3.mono hzB)⟩
end Go.Proofs.YtjimdnmdnjhnjaaGreatDoor
