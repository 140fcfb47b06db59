/- Contracts: where the numbers of a set-up stand; a number read; the text of a set-up (cover.FormatSetup). -/
import Derived.Test.YtkbggcencmjgfaaGreatDoorZkCvW
import Derived.Test.YtkbggcencmjgfaaGreatDoorZkCvM
import Derived.Test.YtkbggcencmjgfaaGreatDoorCkA
import Derived.Test.YtkbggcencmjgfaaGreatDoorTxL
import Derived.BigRegion
namespace Go.Proofs.YtkbggcencmjgfaaGreatDoor
open Go.RowKit Go.Lib

abbrev ptr (b o : Nat) : Value := .pointer (some ⟨b, o, none⟩)
abbrev ptrs (b : Nat) : Array Value := #[ptr b 1, ptr b 2, ptr b 3, ptr b 4, ptr b 5, ptr b 6, ptr b 7, ptr b 8, ptr b 9]
set_option maxRecDepth 100000 in
set_option maxHeartbeats 4000000 in
theorem numbersOf_any (b : Nat) (w : World) : Calls Tryz.prog 29 #[ptr b 0] w fun e w' => ∃ g, e = .returned (.slice (some ⟨g, 0, none⟩) 9 9) ∧ Blk w' g 88 (ptrs b) ∧ w.heap.size ≤ g ∧ Below w.heap.size w w' := by
  have bn := Blk.new w 88 (ptrs b)
  go_enter Tryz.func29, Tryz.ntmps29
  go_upto_region 1 with fail
  go_region
  go_wp2
  go_ret
  exact ⟨_, rfl, bn.drew, Nat.le_refl _, (by repeat (first | (with_reducible exact Below.refl _ _) | (with_reducible assumption) | ((with_reducible refine Below.setCell ?_ ?_ _); rotate_left; · (first | exact Nat.le_refl _ | (simp; done) | (simp; omega) | omega)) | ((with_reducible refine Below.alloc ?_ ?_ _); rotate_left; · (first | exact Nat.le_refl _ | (simp; done) | (simp; omega) | omega)) | (with_reducible apply Below.drew) | (with_reducible apply below_drewN') | (refine Below.trans ?_ (Below.mono (by assumption) (by first | exact Nat.le_refl _ | (simp; done) | (simp; omega) | omega))) | exact Below.refl _ _ | assumption))⟩

theorem numP_parts {s : ByteArray} {v : Int} (hv : atoiAll s.data.toList = .ok v) :
    numL 9 s.data.toList = (if strB (itoa v) = s ∧ (strB (bodyL s.data.toList)).size ≤ 9 then some v else none) := by
  rw [← numP_eq 9 (by decide)]
  unfold numP
  simp only [hv]
  rw [trim_body, strB_size]
  have he : itoa v = s.data.toList ↔ strB (itoa v) = s := ⟨fun e => by rw [e]; rfl, fun e => by rw [← e, strB_data]⟩
  by_cases h : itoa v = s.data.toList ∧ (bodyL s.data.toList).length ≤ 9
  · rw [if_pos h, if_pos ⟨he.1 h.1, h.2⟩]
  · rw [if_neg h, if_neg (fun h' => h ⟨he.2 h'.1, h'.2⟩)]
set_option maxRecDepth 100000 in
set_option maxHeartbeats 4000000 in
/-- A number read. -/
theorem readNumber_any (s : ByteArray) (hs : s.size ≤ 100000) (w : World) (hL : LibW w) : Calls Tryz.prog 34 #[.string s] w fun e w' => ∃ n b, e = .returned (.tuple #[.int .i64 n, .bool b]) ∧ b = (numL 9 s.data.toList).isSome ∧ (∀ v, numL 9 s.data.toList = some v → n = v) ∧ Below w.heap.size w w' := by
  have HL := Lib.hid hL; clear hL
  by_cases ha : ∃ v, atoiAll s.data.toList = .ok v
  · obtain ⟨v, hv⟩ := ha
    have hvb := atoiAll_bounds hv
    have hnum := numP_parts hv
    have HAT := Lib.hid (atoi_ok s (by omega) v hv w)
    obtain ⟨y, hy⟩ : ∃ y, strB (itoa v) = y := ⟨_, rfl⟩
    have HIT : Hid (∀ W', LibW W' → Calls Tryz.prog 30 #[.int .i64 v] W' fun e w' => e = .returned (.string y) ∧ Below W'.heap.size W' w') := Lib.hid fun W' h => by rw [← hy]; exact itoa_any v hvb.1 hvb.2 W' h
    obtain ⟨tr, htr⟩ : ∃ tr, strB (bodyL s.data.toList) = tr := ⟨_, rfl⟩
    have HTR : Hid (∀ W', Calls Tryz.prog 77 #[.string s, .string ⟨#[45]⟩] W' fun e w' => e = .returned (.string tr) ∧ W' = w') := Lib.hid fun W' => by rw [← htr]; exact trim_any s W'
    rw [hy, htr] at hnum
    obtain ⟨o, ho⟩ : ∃ o, numL 9 s.data.toList = o := ⟨_, rfl⟩
    rw [ho] at hnum ⊢
    have hti : ∀ a b : ByteArray, a.toList = b.toList → a = b := fun a b e => by
      rw [toList_data, toList_data] at e
      exact ByteArray.ext (Array.toList_inj.1 e)
    clear ho hy htr hv hvb
    by_cases hyx : y = s
    · have hyl : (y.toList == s.toList) = true := by rw [hyx]; simp
      by_cases h9 : tr.size ≤ 9
      · have h9' : decide ((tr.size : Int) ≤ 9) = true := by rw [decide_eq_true_eq]; omega
        rw [if_pos ⟨hyx, h9⟩] at hnum
        subst hnum
        clear hyx hti
        go_enter Tryz.func34, Tryz.ntmps34
        go_wp2_with (first
          | (go_at_call 76; refine HAT.out.mono ?_; rintro e w4 ⟨rfl, hB4⟩; have HLW := Lib.hid (HL.out.below hB4 (Nat.le_refl _)))
          | (go_at_call 30; refine (HIT.out _ HLW.out).mono ?_; rintro e w5 ⟨rfl, hB5⟩; have hBB := hB4.trans (hB5.mono (Below.size hB4)))
          | (go_at_call 77; refine (HTR.out _).mono ?_; rintro e w6 ⟨rfl, rfl⟩))
        go_ret2
        exact ⟨v, true, rfl, rfl, (fun u hu => by injection hu), hBB⟩
      · have h9' : decide ((tr.size : Int) ≤ 9) = false := by rw [decide_eq_false_iff_not]; omega
        rw [if_neg (fun h => h9 h.2)] at hnum
        subst hnum
        clear hyx hti
        go_enter Tryz.func34, Tryz.ntmps34
        go_wp2_with (first
          | (go_at_call 76; refine HAT.out.mono ?_; rintro e w4 ⟨rfl, hB4⟩; have HLW := Lib.hid (HL.out.below hB4 (Nat.le_refl _)))
          | (go_at_call 30; refine (HIT.out _ HLW.out).mono ?_; rintro e w5 ⟨rfl, hB5⟩; have hBB := hB4.trans (hB5.mono (Below.size hB4)))
          | (go_at_call 77; refine (HTR.out _).mono ?_; rintro e w6 ⟨rfl, rfl⟩))
        go_ret2
        exact ⟨v, false, rfl, rfl, (fun u hu => by cases hu), hBB⟩
    · have hyl : (y.toList == s.toList) = false := beq_eq_false_iff_ne.2 fun e => hyx (hti _ _ e)
      rw [if_neg (fun h => hyx h.1)] at hnum
      subst hnum
      clear hyx hti HTR
      go_enter Tryz.func34, Tryz.ntmps34
      go_wp2_with (first
        | (go_at_call 76; refine HAT.out.mono ?_; rintro e w4 ⟨rfl, hB4⟩; have HLW := Lib.hid (HL.out.below hB4 (Nat.le_refl _)))
        | (go_at_call 30; refine (HIT.out _ HLW.out).mono ?_; rintro e w5 ⟨rfl, hB5⟩; have hBB := hB4.trans (hB5.mono (Below.size hB4))))
      go_ret2
      exact ⟨v, false, rfl, rfl, (fun u hu => by cases hu), hBB⟩
  · have hnum : numL 9 s.data.toList = none := by
      rw [← numP_eq 9 (by decide)]
      unfold numP
      cases h : atoiAll s.data.toList with
      | ok v => exact absurd ⟨v, h⟩ ha
      | «syntax» => rfl
      | range => rfl
    have HAT := Lib.hid (atoi_bad s (by omega) (fun v e => ha ⟨v, e⟩) w HL.out)
    obtain ⟨o, ho⟩ : ∃ o, numL 9 s.data.toList = o := ⟨_, rfl⟩
    rw [ho] at hnum ⊢
    subst hnum
    clear ha ho
    go_enter Tryz.func34, Tryz.ntmps34
    go_wp2_with (go_at_call 76; refine HAT.out.mono ?_; rintro e w4 ⟨n, N, rfl, hB4⟩)
    go_ret2
    exact ⟨n, false, rfl, rfl, (fun u hu => by cases hu), hB4⟩

def suI (s : Su) : Prop := ∀ v ∈ suN s, -9223372036854775808 ≤ v ∧ v ≤ 9223372036854775807
def suWB (nm : ByteArray) (s : Su) (k : Nat) : List ByteArray := nm :: ((suN s).take k).map fun n => strB (itoa n)
theorem suWB_all (nm : ByteArray) (s : Su) : (suWB nm s 9).map (·.data.toList) = suW nm s := by
  unfold suWB suW
  rw [List.take_of_length_le (by simp [suN]), List.map_cons, List.map_map]
  rfl
theorem suWB_succ (nm : ByteArray) (s : Su) {k : Nat} (h : k < (suN s).length) : suWB nm s (k + 1) = suWB nm s k ++ [strB (itoa (suN s)[k])] := by
  unfold suWB
  rw [List.take_add_one, List.getElem?_eq_getElem h, List.map_append]
  rfl
theorem suWB_length (nm : ByteArray) (s : Su) {k : Nat} (h : k ≤ 9) : (suWB nm s k).length = k + 1 := by
  unfold suWB
  rw [List.length_cons, List.length_map, List.length_take]
  simp [suN]; omega
theorem join_len (c : UInt8) : ∀ (ws : List (List UInt8)), (join ws [c]).length ≤ (ws.map (·.length + 1)).sum
  | [] => by simp [join, List.intercalate]
  | [x] => by simp [join, List.intercalate]
  | x :: y :: ws => by
    have : join (x :: y :: ws) [c] = x ++ c :: join (y :: ws) [c] := by simp [join, List.intercalate, List.intersperse]
    rw [this]
    have ih := join_len c (y :: ws)
    simp only [List.length_append, List.length_cons, List.map_cons, List.sum_cons] at ih ⊢
    omega
theorem suT_len (nm : ByteArray) (s : Su) (h : suI s) : (join (suW nm s) [32]).length ≤ nm.size + 200 := by
  refine Nat.le_trans (join_len 32 _) ?_
  have hi := fun v hv => itoa_size v (h v hv).1 (h v hv).2
  have h0 := hi s.at_ (by simp [suN]); have h1 := hi s.side (by simp [suN]); have h2 := hi s.legs (by simp [suN]); have h3 := hi s.ln (by simp [suN]); have h4 := hi s.ld (by simp [suN])
  have h5 := hi s.mn (by simp [suN]); have h6 := hi s.md (by simp [suN]); have h7 := hi s.tn (by simp [suN]); have h8 := hi s.td (by simp [suN])
  simp only [suW, suN, List.map_cons, List.map_nil, List.sum_cons, List.sum_nil, size_list]
  omega
theorem su_at {w : World} {b : Nat} {nm : ByteArray} {s : Su} (h : Blk w b 25 (suC nm s)) {k : Nat} (hk : k < (suN s).length) : w.cell? ⟨b, k + 1, none⟩ = some (.int .i64 (suN s)[k]) := by
  rw [h.cell (k + 1)]
  have hk' : k < 9 := hk
  rcases (by omega : k = 0 ∨ k = 1 ∨ k = 2 ∨ k = 3 ∨ k = 4 ∨ k = 5 ∨ k = 6 ∨ k = 7 ∨ k = 8) with rfl | rfl | rfl | rfl | rfl | rfl | rfl | rfl | rfl <;> rfl
theorem ptrs_at {w : World} {g b : Nat} (h : Blk w g 88 (ptrs b)) {k : Nat} (hk : k < 9) : w.cell? ⟨g, k, none⟩ = some (ptr b (k + 1)) := by
  rw [h.cell k]
  rcases (by omega : k = 0 ∨ k = 1 ∨ k = 2 ∨ k = 3 ∨ k = 4 ∨ k = 5 ∨ k = 6 ∨ k = 7 ∨ k = 8) with rfl | rfl | rfl | rfl | rfl | rfl | rfl | rfl | rfl <;> rfl
theorem own_strs (w : World) (base : Nat) (x : ByteArray) (hb : base ≤ w.heap.size) : (w.alloc (.cells #[.string x] 9)).ownsRow base 9 1 (.slice (some ⟨w.heap.size, 0, none⟩) 1 1) 1 (strsC [x]) :=
  ⟨rfl, .inr ⟨w.heap.size, 1, #[.string x], rfl, hb, heap_alloc_new w _, Nat.le_refl _, by decide, rfl, rfl⟩⟩
set_option maxRecDepth 100000 in
set_option maxHeartbeats 4000000 in
theorem formatSetup_any (nm : ByteArray) (s : Su) (hI : Hid (suI s)) (hs : nm.size ≤ 1000) (w : World) (hL : LibW w) : Calls Tryz.prog 6 #[.agg (suC nm s)] w fun e w' => e = .returned (.string (suT nm s)) ∧ Below w.heap.size w w' := by
  have HL := Lib.hid hL; clear hL
  have b0 := Blk.new w 25 (suC nm s)
  have hB0 : Below w.heap.size w (w.alloc (.cells (suC nm s) 25)) := (by repeat (first | (with_reducible exact Below.refl _ _) | (with_reducible assumption) | ((with_reducible refine Below.setCell ?_ ?_ _); rotate_left; · (first | exact Nat.le_refl _ | (simp; done) | (simp; omega) | omega)) | ((with_reducible refine Below.alloc ?_ ?_ _); rotate_left; · (first | exact Nat.le_refl _ | (simp; done) | (simp; omega) | omega)) | (with_reducible apply Below.drew) | (with_reducible apply below_drewN') | (refine Below.trans ?_ (Below.mono (by assumption) (by first | exact Nat.le_refl _ | (simp; done) | (simp; omega) | omega))) | exact Below.refl _ _ | assumption))
  have c0 : (w.alloc (.cells (suC nm s) 25)).cell? ⟨w.heap.size, 0, none⟩ = some (.string nm) := b0.cell 0
  obtain ⟨i0, hi0, hz0, hz1, hz2⟩ := info_parts infoStr
  go_enter Tryz.func6, Tryz.ntmps6
  go_wp2_with fail
  refine (numbersOf_any _ _).mono ?_
  rintro e w1 ⟨g1, rfl, p1, hg1, hB1⟩
  have b1 := (b0.alloc (.cells #[.string nm] 9)).below hB1 (by simp; omega)
  have own0 := own_strs (w.alloc (.cells (suC nm s) 25)) w.heap.size nm (by simp)
  simp only [World.size_alloc] at own0 hg1
  have own1 := own_below own0 hB1
  have hBB : Below w.heap.size w w1 := (hB0.alloc (by simp) _).trans (hB1.mono (by simp; omega))
  clear b0 hB0 own0 hB1 c0
  go_wp2
  go_loopw [3, 11] (fun s3 s10 wr => ∃ (k : Nat) (v : Value), s3 = v ∧ s10 = .int .i64 k ∧ k ≤ 9 ∧ wr.ownsRow w.heap.size 9 1 v (suWB nm s k).length (strsC (suWB nm s k)) ∧ Blk wr w.heap.size 25 (suC nm s) ∧ Blk wr g1 88 (ptrs w.heap.size) ∧ Below w.heap.size w wr) (fun _ s10 _ => 9 - (RowKit.intOf s10).toNat)
  case atStart => exact ⟨0, _, rfl, rfl, by omega, own1, b1, p1, hBB⟩
  case round =>
    clear own1 b1 hBB p1
    obtain ⟨k, v, rfl, rfl, hk, hown, hb, hp, hBB⟩ := hrel
    have hzB := Below.size hBB
    by_cases hlt : k < 9
    · have hlI : (k : Int) < 9 := by omega
      have hkl : k < (suN s).length := by simp [suN]; omega
      have c1 := su_at hb hkl
      have c2 := ptrs_at hp hlt
      have lp := hp.lt
      have hlw := HL.out.below hBB (Nat.le_refl _)
      have hv := hI.out _ (List.getElem_mem hkl)
      have HW : Hid (strsC (suWB nm s (k + 1)) = strsC (suWB nm s k) ++ [.string (strB (itoa (suN s)[k]))] ∧ (suWB nm s (k + 1)).length = (suWB nm s k).length + 1) := Lib.hid (by rw [suWB_succ nm s hkl, strsC_succ, List.length_append]; exact ⟨rfl, rfl⟩)
      have HWl : Hid ((suWB nm s k).length = k + 1) := Lib.hid (suWB_length nm s hk)
      generalize (suN s)[k] = n at *
      have HLW := Lib.hid hlw; clear hlw
      go_wp2_with (first
        | (go_at_call 30; (with_reducible refine (itoa_any _ hv.1 hv.2 _ HLW.out).mono ?_); rintro e w2 ⟨rfl, hB2⟩; have hb2 := hb.below hB2 hb.lt; have hp2 := hp.below hB2 hp.lt; have hzw2 := Below.size hB2; have hown2 := own_below hown hB2; have hOo := hown2.alloc (.cells #[.string (strB (itoa n))] 9); have hBo := (hBB.trans (hB2.mono hzB)).alloc (Nat.le_trans hzB hzw2) (.cells #[.string (strB (itoa n))] 9))
        | (at_builtin; refine wpList_append_own _ rfl _ _ 84 rfl w.heap.size 9 i0 _ 1 16 Tryz.underlying84 hi0 hz0 hz1 hz2 rfl (by decide) _ _ _ rfl hOo ⟨w2.heap.size, 0, none⟩ 1 1 [.string (strB (itoa n))] rfl rfl (cell_one_new _ _ _) (by simp [Value.oneCell']) (by have := HWl.out; unfold maxLen; omega) (by have := HWl.out; omega) (by first | omega | (simp; done) | (simp; omega)) ?_; intro v2 W5 hown' hgrow _))
      have hown3 : W5.ownsRow w.heap.size 9 1 v2 (suWB nm s (k + 1)).length (strsC (suWB nm s (k + 1))) := by
        rw [HW.out.1, HW.out.2]; exact hown'
      have hb3 := (hb2.alloc (.cells #[.string (strB (itoa n))] 9)).grown hgrow (fun e => own_blk_ne hOo (hb2.alloc (.cells #[.string (strB (itoa n))] 9)) (by decide) e.symm)
      have hp3 := (hp2.alloc (.cells #[.string (strB (itoa n))] 9)).grown hgrow (fun e => own_blk_ne hOo (hp2.alloc (.cells #[.string (strB (itoa n))] 9)) (by decide) e.symm)
      exact ⟨⟨k + 1, v2, rfl, by go_num, by omega, hown3, hb3, hp3, below_own hBo (Nat.le_refl _) hOo hgrow⟩, by simp [RowKit.intOf]; omega⟩
    · obtain rfl : k = 9 := by omega
      have HJ : Hid (strB (join ((suWB nm s 9).map (·.data.toList)) [32]) = suT nm s) := Lib.hid (by rw [suWB_all]; rfl)
      have hj := join_own (suWB nm s 9) 32 _ w.heap.size wr hown (by simp [suWB]) (by rw [suWB_all]; have := suT_len nm s hI.out; omega) (by rw [suWB_length nm s (Nat.le_refl 9)]; omega)
      have HJJ := Lib.hid hj; clear hj
      go_wp2_with (go_at_call 31; refine HJJ.out.mono ?_; rintro e w3 ⟨rfl, hB3⟩)
      go_ret
      exact ⟨by rw [HJ.out]; rfl, hBB.trans (hB3.mono hzB)⟩
end Go.Proofs.YtkbggcencmjgfaaGreatDoor
