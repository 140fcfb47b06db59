/- Contract: a text cut at a byte (base.Cut). What the library's texts need of a world, and their contracts: strconv.Itoa, strconv.Atoi, strings.Split, Contains, TrimPrefix, Join. Contracts: numbers read (office.number, code.number, office.numbers). -/
import Derived.Lib.SmallJoins
import Derived.Lib.AtoiErrMem
import Derived.Lib.AppendIntMem
import Derived.Test.YtmdbpkomanhpoaaGreatDoorZqCvM
import Derived.Test.YtmdbpkomanhpoaaGreatDoorZqTxA
import Derived.Test.YtmdbpkomanhpoaaGreatDoorZqShTp
import Derived.Test.YtmdbpkomanhpoaaGreatDoorZqOsG
import Derived.Test.YtmdbpkomanhpoaaGreatDoorZqOsR
import Derived.Test.YtmdbpkomanhpoaaGreatDoorZqOsW
namespace Go.Proofs.YtmdbpkomanhpoaaGreatDoor
open Go.RowKit Go.Lib

theorem infoStr : (Tryz.prog.info? 9).map (fun i => (i.zero, i.size, i.bytes)) = some (some (.string ByteArray.empty), 1, 16) := by kernel_rfl
theorem size_list (s : ByteArray) : s.data.toList.length = s.size := by rw [Array.length_toList]; rfl

end Go.Proofs.YtmdbpkomanhpoaaGreatDoor

namespace Go.Proofs.YtmdbpkomanhpoaaGreatDoor
open Go.RowKit Go.Lib

/-- What the library's variables hold. -/
structure LibW (w : World) : Prop where
  pow : TabIs Tryz.prog w "internal/strconv.uint64pow10" .u64 pow10Tab
  syn : ∃ t p, w.cell? ⟨8, 0, none⟩ = some (.iface t p)
  rng : ∃ t p, w.cell? ⟨9, 0, none⟩ = some (.iface t p)
  max : ∃ m, w.cell? ⟨2, 0, none⟩ = some (.int .i64 m)
theorem cell_stays {w w' : World} {B g : Nat} {v : Value} (h : w.cell? ⟨g, 0, none⟩ = some v) (hb : Below B w w') (hB : w.heap.size ≤ B) : w'.cell? ⟨g, 0, none⟩ = some v := by
  have := World.block_lt_of_cell? _ _ h
  rw [hb.cell (show (⟨g, 0, none⟩ : Addr).block < B from by simp only; simp only at this; omega)]
  exact h
theorem LibW.below {w w' : World} {B : Nat} (h : LibW w) (hb : Below B w w') (hB : w.heap.size ≤ B) : LibW w' := by
  obtain ⟨t, p, hs⟩ := h.syn
  obtain ⟨t2, p2, hr⟩ := h.rng
  obtain ⟨m, hm⟩ := h.max
  exact ⟨Go.Joins.tab_stays (g := 4) (by kernel_rfl) h.pow hb hB, ⟨t, p, cell_stays hs hb hB⟩, ⟨t2, p2, cell_stays hr hb hB⟩, ⟨m, cell_stays hm hb hB⟩⟩

theorem itoa_any (n : Int) (h0 : -9223372036854775808 ≤ n) (h1 : n ≤ 9223372036854775807) (w : World) (hL : LibW w) : Calls Tryz.prog 52 #[.int .i64 n] w fun e w' => e = .returned (.string (strB (itoa n))) ∧ Below w.heap.size w w' :=
  (Tryz.strconv_Itoa n h0 h1 w hL.pow).mono fun _ _ ⟨he, k, os, hw⟩ => ⟨he, hw ▸ Go.Lib.below_grow _ w (Nat.le_refl _) k os⟩
theorem atoi_ok (s : ByteArray) (hs : s.size ≤ 1000000) (v : Int) (h : atoiAll s.data.toList = .ok v) (w : World) : Calls Tryz.prog 130 #[.string s] w fun e w' => e = .returned (.tuple #[.int .i64 v, .nilIface]) ∧ Below w.heap.size w w' :=
  (Tryz.strconv_Atoi_ok s (by omega) v h w).mono fun _ _ ⟨he, hw⟩ => ⟨he, by
    rcases hw with rfl | ⟨t, rfl⟩
    · exact Below.refl _ _
    · exact bytesWorld_below _ _ _⟩
theorem atoi_bad (s : ByteArray) (hs : s.size ≤ 1000000) (h : ∀ v, atoiAll s.data.toList ≠ .ok v) (w : World) (hL : LibW w) : Calls Tryz.prog 130 #[.string s] w fun e w' => ∃ n N, e = .returned (.tuple #[.int .i64 n, .iface 275 (.pointer (some ⟨N, 0, none⟩))]) ∧ Below w.heap.size w w' := by
  obtain ⟨t, p, hsy⟩ := hL.syn
  obtain ⟨t2, p2, hr⟩ := hL.rng
  cases ha : atoiAll s.data.toList with
  | ok v => exact absurd ha (h v)
  | «syntax» => exact (Tryz.strconv_Atoi_syntax s (by omega) ha _ w hsy (Or.inr ⟨_, _, rfl⟩)).mono fun _ _ ⟨N, he, _, _, hb⟩ => ⟨_, N, he, hb⟩
  | range => exact (Tryz.strconv_Atoi_range s (by omega) ha _ w hr (Or.inr ⟨_, _, rfl⟩)).mono fun _ _ ⟨N, he, _, _, hb⟩ => ⟨_, N, he, hb⟩
/-- A text cut at a byte, by the library. -/
theorem split_any (s : ByteArray) (c : UInt8) (hs : s.size ≤ 1000000) (w : World) (hL : LibW w) : Calls Tryz.prog 47 #[.string s, .string ⟨#[c]⟩] w fun e w' => e = .returned (.slice (some ⟨w.heap.size, 0, none⟩) (cutB c s).length (cutB c s).length) ∧ w' = w.alloc (.cells (strsC (cutB c s)).toArray 9) := by
  obtain ⟨m, hm⟩ := hL.max
  refine (Tryz.strings_Split s ⟨#[c]⟩ m w (by omega) hm (Nat.le_refl 1)).mono fun e w' ⟨he, hw⟩ => ?_
  rw [cutB_length]
  rw [splitB_cut] at hw
  exact ⟨he, hw⟩
theorem contains_one_any (s : ByteArray) (c : UInt8) (hs : s.size ≤ 1000000) (w : World) (hL : LibW w) : Calls Tryz.prog 55 #[.string s, .string ⟨#[c]⟩] w fun e w' => e = .returned (.bool (decide (c ∈ s.data.toList))) ∧ w = w' := by
  obtain ⟨m, hm⟩ := hL.max
  refine (Tryz.strings_Contains s ⟨#[c]⟩ m w (by omega) hm).mono fun e w' ⟨he, hw⟩ => ⟨?_, hw.symm⟩
  rw [he, ← contains_one]
theorem trim_any (s : ByteArray) (w : World) : Calls Tryz.prog 131 #[.string s, .string ⟨#[45]⟩] w fun e w' => e = .returned (.string (strB (bodyL s.data.toList))) ∧ w = w' :=
  (Tryz.strings_TrimPrefix s ⟨#[45]⟩ w).mono fun e w' ⟨he, hw⟩ => ⟨by rw [he, ← trim_body]; rfl, hw.symm⟩
theorem join_own (xs : List ByteArray) (c : UInt8) (v : Value) (B : Nat) (w : World) (h : w.ownsRow B 9 1 v xs.length (strsC xs)) (hx : xs ≠ []) (hlen : (join (xs.map (·.data.toList)) [c]).length ≤ 1000000000) (hn : xs.length ≤ 1000000) :
    Calls Tryz.prog 31 #[v, .string ⟨#[c]⟩] w fun e w' => e = .returned (.string (strB (join (xs.map (·.data.toList)) [c]))) ∧ Below w.heap.size w w' := by
  obtain ⟨x0, xs', rfl⟩ : ∃ x0 xs', xs = x0 :: xs' := by
    cases xs with
    | nil => exact absurd rfl hx
    | cons a b => exact ⟨a, b, rfl⟩
  obtain ⟨hl, h | ⟨g, cap, cur, rfl, hb, hh, hcap, hmax, hsz, htk⟩⟩ := h
  · exact absurd h.2 (by simp)
  · have hg : g < w.heap.size := by
      rcases Nat.lt_or_ge g w.heap.size with h' | h'
      · exact h'
      · rw [Array.getElem?_eq_none h'] at hh; cases hh
    refine (Tryz.strings_Join g 0 cap (x0 :: xs') ⟨#[c]⟩ w (fun j x hj => ?_) hg (by omega) hcap (by show (join _ [c]).length ≤ _; omega)).mono fun e w' ⟨he, hw⟩ => ⟨he, hw⟩
    have hjl : j < (x0 :: xs').length := (List.getElem?_eq_some_iff.1 hj).1
    have e1 : w.cell? ⟨g, 0 + j, none⟩ = cur[j]? := by rw [Nat.zero_add]; simp [World.cell?, hh]
    rw [e1]
    have e2 := congrArg (·[j]?) htk
    simp only [List.getElem?_take, Array.getElem?_toList] at e2
    rw [if_pos (by omega)] at e2
    rw [e2, strsC, List.getElem?_map, hj]
    rfl
end Go.Proofs.YtmdbpkomanhpoaaGreatDoor

namespace Go.Proofs.YtmdbpkomanhpoaaGreatDoor
open Go.RowKit Go.Lib

/-- What the reading of a number tells. -/
def NumR (o : Option Int) (e : Ending) : Prop := ∃ (n : Int) (b : Bool), e = .returned (.tuple #[.int .i64 n, .bool b]) ∧ b = o.isSome ∧ ∀ v, o = some v → n = v
theorem numP_parts {s : ByteArray} {v : Int} (hv : atoiAll s.data.toList = .ok v) :
    numL 9 s.data.toList = (if strB (itoa v) = s ∧ (strB (bodyL s.data.toList)).size ≤ 9 then some v else none) := by
  rw [← numP_eq 9 (by decide)]
  unfold numP
  simp only [hv]
  rw [trim_body, strB_size]
  have he : itoa v = s.data.toList ↔ strB (itoa v) = s := ⟨fun e => by rw [e]; rfl, fun e => by rw [← e, strB_data]⟩
  by_cases h : itoa v = s.data.toList ∧ (bodyL s.data.toList).length ≤ 9
  · rw [if_pos h, if_pos ⟨he.1 h.1, h.2⟩]
  · rw [if_neg h, if_neg (fun h' => h ⟨he.2 h'.1, h'.2⟩)]
set_option maxRecDepth 100000 in
set_option maxHeartbeats 4000000 in
theorem oNumber_any (s : ByteArray) (hs : s.size ≤ 100000) (w : World) (hL : LibW w) : Calls Tryz.prog 129 #[.string s] w fun e w' => NumR (numL 9 s.data.toList) e ∧ Below w.heap.size w w' := by
  have HL := Lib.hid hL; clear hL
  by_cases ha : ∃ v, atoiAll s.data.toList = .ok v
  · obtain ⟨v, hv⟩ := ha
    have hvb := atoiAll_bounds hv
    have hnum := numP_parts hv
    have HAT := Lib.hid (atoi_ok s (by omega) v hv w)
    obtain ⟨y, hy⟩ : ∃ y, strB (itoa v) = y := ⟨_, rfl⟩
    have HIT : Hid (∀ W', LibW W' → Calls Tryz.prog 52 #[.int .i64 v] W' fun e w' => e = .returned (.string y) ∧ Below W'.heap.size W' w') := Lib.hid fun W' h => by rw [← hy]; exact itoa_any v hvb.1 hvb.2 W' h
    obtain ⟨tr, htr⟩ : ∃ tr, strB (bodyL s.data.toList) = tr := ⟨_, rfl⟩
    have HTR : Hid (∀ W', Calls Tryz.prog 131 #[.string s, .string ⟨#[45]⟩] W' fun e w' => e = .returned (.string tr) ∧ W' = w') := Lib.hid fun W' => by rw [← htr]; exact trim_any s W'
    rw [hy, htr] at hnum
    obtain ⟨o, ho⟩ : ∃ o, numL 9 s.data.toList = o := ⟨_, rfl⟩
    rw [ho] at hnum ⊢
    have hti : ∀ a b : ByteArray, a.toList = b.toList → a = b := fun a b e => by
      rw [toList_data, toList_data] at e
      exact ByteArray.ext (Array.toList_inj.1 e)
    clear ho hy htr hv hvb
    by_cases hyx : y = s
    · have hyl : (y.toList == s.toList) = true := by rw [hyx]; simp
      by_cases h9 : tr.size ≤ 9
      · have h9' : decide ((tr.size : Int) ≤ 9) = true := by rw [decide_eq_true_eq]; omega
        rw [if_pos ⟨hyx, h9⟩] at hnum
        subst hnum
        clear hyx hti
        go_enter Tryz.func129, Tryz.ntmps129
        go_wp2_with (first
          | (go_at_call 130; refine HAT.out.mono ?_; rintro e w4 ⟨rfl, hB4⟩; have HLW := Lib.hid (HL.out.below hB4 (Nat.le_refl _)))
          | (go_at_call 52; refine (HIT.out _ HLW.out).mono ?_; rintro e w5 ⟨rfl, hB5⟩; have hBB := hB4.trans (hB5.mono (Below.size hB4)))
          | (go_at_call 131; refine (HTR.out _).mono ?_; rintro e w6 ⟨rfl, rfl⟩))
        go_ret2
        exact ⟨⟨v, true, rfl, rfl, (fun u hu => by injection hu)⟩, hBB⟩
      · have h9' : decide ((tr.size : Int) ≤ 9) = false := by rw [decide_eq_false_iff_not]; omega
        rw [if_neg (fun h => h9 h.2)] at hnum
        subst hnum
        clear hyx hti
        go_enter Tryz.func129, Tryz.ntmps129
        go_wp2_with (first
          | (go_at_call 130; refine HAT.out.mono ?_; rintro e w4 ⟨rfl, hB4⟩; have HLW := Lib.hid (HL.out.below hB4 (Nat.le_refl _)))
          | (go_at_call 52; refine (HIT.out _ HLW.out).mono ?_; rintro e w5 ⟨rfl, hB5⟩; have hBB := hB4.trans (hB5.mono (Below.size hB4)))
          | (go_at_call 131; refine (HTR.out _).mono ?_; rintro e w6 ⟨rfl, rfl⟩))
        go_ret2
        exact ⟨⟨v, false, rfl, rfl, (fun u hu => by cases hu)⟩, hBB⟩
    · have hyl : (y.toList == s.toList) = false := beq_eq_false_iff_ne.2 fun e => hyx (hti _ _ e)
      rw [if_neg (fun h => hyx h.1)] at hnum
      subst hnum
      clear hyx hti HTR
      go_enter Tryz.func129, Tryz.ntmps129
      go_wp2_with (first
        | (go_at_call 130; refine HAT.out.mono ?_; rintro e w4 ⟨rfl, hB4⟩; have HLW := Lib.hid (HL.out.below hB4 (Nat.le_refl _)))
        | (go_at_call 52; refine (HIT.out _ HLW.out).mono ?_; rintro e w5 ⟨rfl, hB5⟩; have hBB := hB4.trans (hB5.mono (Below.size hB4))))
      go_ret2
      exact ⟨⟨v, false, rfl, rfl, (fun u hu => by cases hu)⟩, hBB⟩
  · have hnum : numL 9 s.data.toList = none := by
      rw [← numP_eq 9 (by decide)]
      unfold numP
      cases h : atoiAll s.data.toList with
      | ok v => exact absurd ⟨v, h⟩ ha
      | «syntax» => rfl
      | range => rfl
    have HAT := Lib.hid (atoi_bad s (by omega) (fun v e => ha ⟨v, e⟩) w HL.out)
    obtain ⟨o, ho⟩ : ∃ o, numL 9 s.data.toList = o := ⟨_, rfl⟩
    rw [ho] at hnum ⊢
    subst hnum
    clear ha ho
    go_enter Tryz.func129, Tryz.ntmps129
    go_wp2_with (go_at_call 130; refine HAT.out.mono ?_; rintro e w4 ⟨n, N, rfl, hB4⟩)
    go_ret2
    exact ⟨⟨n, false, rfl, rfl, (fun u hu => by cases hu)⟩, hB4⟩

/-- A number of a mark. -/
def numC (s : ByteArray) : Option Int := match numL 9 s.data.toList with
  | some v => if 0 ≤ v ∧ s.size ≤ 6 then some v else none
  | none => none
theorem body_size (l : List UInt8) : (bodyL l).length ≤ l.length := by
  unfold bodyL
  split
  · simp
  · exact Nat.le_refl _
theorem numC_parts {s : ByteArray} {v : Int} (hv : atoiAll s.data.toList = .ok v) : numC s = if 0 ≤ v ∧ strB (itoa v) = s ∧ s.size ≤ 6 then some v else none := by
  unfold numC
  rw [numP_parts hv]
  have hb := body_size s.data.toList
  rw [size_list] at hb
  have hbs : (strB (bodyL s.data.toList)).size = (bodyL s.data.toList).length := strB_size _
  by_cases h1 : strB (itoa v) = s
  · by_cases h2 : (strB (bodyL s.data.toList)).size ≤ 9
    · rw [if_pos ⟨h1, h2⟩]
      show (if 0 ≤ v ∧ s.size ≤ 6 then some v else none) = _
      by_cases h3 : 0 ≤ v ∧ s.size ≤ 6
      · rw [if_pos h3, if_pos ⟨h3.1, h1, h3.2⟩]
      · rw [if_neg h3, if_neg (fun h => h3 ⟨h.1, h.2.2⟩)]
    · rw [if_neg (fun h => h2 h.2)]
      show none = _
      rw [if_neg (fun h => by have := h.2.2; omega)]
  · rw [if_neg (fun h => h1 h.1)]
    show none = _
    rw [if_neg (fun h => h1 h.2.1)]
set_option maxRecDepth 100000 in
set_option maxHeartbeats 4000000 in
theorem cNumber_any (s : ByteArray) (hs : s.size ≤ 100000) (w : World) (hL : LibW w) : Calls Tryz.prog 137 #[.string s] w fun e w' => NumR (numC s) e ∧ Below w.heap.size w w' := by
  have HL := Lib.hid hL; clear hL
  by_cases ha : ∃ v, atoiAll s.data.toList = .ok v
  · obtain ⟨v, hv⟩ := ha
    have hvb := atoiAll_bounds hv
    have hnum := numC_parts hv
    have HAT := Lib.hid (atoi_ok s (by omega) v hv w)
    obtain ⟨y, hy⟩ : ∃ y, strB (itoa v) = y := ⟨_, rfl⟩
    have HIT : Hid (∀ W', LibW W' → Calls Tryz.prog 52 #[.int .i64 v] W' fun e w' => e = .returned (.string y) ∧ Below W'.heap.size W' w') := Lib.hid fun W' h => by rw [← hy]; exact itoa_any v hvb.1 hvb.2 W' h
    rw [hy] at hnum
    obtain ⟨o, ho⟩ : ∃ o, numC s = o := ⟨_, rfl⟩
    rw [ho] at hnum ⊢
    have hti : ∀ a b : ByteArray, a.toList = b.toList → a = b := fun a b e => by
      rw [toList_data, toList_data] at e
      exact ByteArray.ext (Array.toList_inj.1 e)
    clear ho hy hv hvb
    by_cases h0 : 0 ≤ v
    · by_cases hyx : y = s
      · have hyl : (y.toList == s.toList) = true := by rw [hyx]; simp
        by_cases h9 : s.size ≤ 6
        · have h9' : decide ((s.size : Int) ≤ 6) = true := by rw [decide_eq_true_eq]; omega
          rw [if_pos ⟨h0, hyx, h9⟩] at hnum
          subst hnum
          clear hyx hti
          go_enter Tryz.func137, Tryz.ntmps137
          go_wp2_with (first
            | (go_at_call 130; refine HAT.out.mono ?_; rintro e w4 ⟨rfl, hB4⟩; have HLW := Lib.hid (HL.out.below hB4 (Nat.le_refl _)))
            | (go_at_call 52; refine (HIT.out _ HLW.out).mono ?_; rintro e w5 ⟨rfl, hB5⟩; have hBB := hB4.trans (hB5.mono (Below.size hB4))))
          go_ret2
          exact ⟨⟨v, true, rfl, rfl, (fun u hu => by injection hu)⟩, hBB⟩
        · have h9' : decide ((s.size : Int) ≤ 6) = false := by rw [decide_eq_false_iff_not]; omega
          rw [if_neg (fun h => h9 h.2.2)] at hnum
          subst hnum
          clear hyx hti
          go_enter Tryz.func137, Tryz.ntmps137
          go_wp2_with (first
            | (go_at_call 130; refine HAT.out.mono ?_; rintro e w4 ⟨rfl, hB4⟩; have HLW := Lib.hid (HL.out.below hB4 (Nat.le_refl _)))
            | (go_at_call 52; refine (HIT.out _ HLW.out).mono ?_; rintro e w5 ⟨rfl, hB5⟩; have hBB := hB4.trans (hB5.mono (Below.size hB4))))
          go_ret2
          exact ⟨⟨v, false, rfl, rfl, (fun u hu => by cases hu)⟩, hBB⟩
      · have hyl : (y.toList == s.toList) = false := beq_eq_false_iff_ne.2 fun e => hyx (hti _ _ e)
        rw [if_neg (fun h => hyx h.2.1)] at hnum
        subst hnum
        clear hyx hti
        go_enter Tryz.func137, Tryz.ntmps137
        go_wp2_with (first
          | (go_at_call 130; refine HAT.out.mono ?_; rintro e w4 ⟨rfl, hB4⟩; have HLW := Lib.hid (HL.out.below hB4 (Nat.le_refl _)))
          | (go_at_call 52; refine (HIT.out _ HLW.out).mono ?_; rintro e w5 ⟨rfl, hB5⟩; have hBB := hB4.trans (hB5.mono (Below.size hB4))))
        go_ret2
        exact ⟨⟨v, false, rfl, rfl, (fun u hu => by cases hu)⟩, hBB⟩
    · rw [if_neg (fun h => h0 h.1)] at hnum
      subst hnum
      clear hti HIT
      have h0' : v < 0 := by omega
      go_enter Tryz.func137, Tryz.ntmps137
      go_wp2_with (go_at_call 130; refine HAT.out.mono ?_; rintro e w4 ⟨rfl, hB4⟩)
      go_ret2
      exact ⟨⟨v, false, rfl, rfl, (fun u hu => by cases hu)⟩, hB4⟩
  · have hnum : numC s = none := by
      unfold numC
      rw [← numP_eq 9 (by decide)]
      unfold numP
      cases h : atoiAll s.data.toList with
      | ok v => exact absurd ⟨v, h⟩ ha
      | «syntax» => rfl
      | range => rfl
    have HAT := Lib.hid (atoi_bad s (by omega) (fun v e => ha ⟨v, e⟩) w HL.out)
    obtain ⟨o, ho⟩ : ∃ o, numC s = o := ⟨_, rfl⟩
    rw [ho] at hnum ⊢
    subst hnum
    clear ha ho
    go_enter Tryz.func137, Tryz.ntmps137
    go_wp2_with (go_at_call 130; refine HAT.out.mono ?_; rintro e w4 ⟨n, N, rfl, hB4⟩)
    go_ret2
    exact ⟨⟨n, false, rfl, rfl, (fun u hu => by cases hu)⟩, hB4⟩
end Go.Proofs.YtmdbpkomanhpoaaGreatDoor
