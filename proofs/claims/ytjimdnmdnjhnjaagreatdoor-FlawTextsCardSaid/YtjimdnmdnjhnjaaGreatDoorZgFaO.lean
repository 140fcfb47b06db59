/- The order of cells, and the library's sort over cells. -/
import Derived.Shelf.SlSortCmp.NoneTotal
import Derived.Sort.OwnSorted
import Derived.Sort.Grow
import Derived.Deep.DeepFit
import Derived.Test.YtjimdnmdnjhnjaaGreatDoorZgFaN
import Derived.Test.YtjimdnmdnjhnjaaGreatDoorZgShB
namespace Go.Proofs.YtjimdnmdnjhnjaaGreatDoor
open Go.RowKit Go.Sort Go.Shelf

/-- The order of two cells. -/
def cmp2 (a b : Int × Int) : Int := if a.1 < b.1 then -1 else if b.1 < a.1 then 1 else if a.2 < b.2 then -1 else if b.2 < a.2 then 1 else 0
theorem compareInt_eq (x y : Int) : Lib.compareInt x y = if x < y then -1 else if y < x then 1 else 0 := rfl

set_option maxHeartbeats 1000000 in
theorem compare2_any (ga gb : Nat) (a0 a1 b0 b1 : Int) (w : World) (h0 : w.cell? ⟨ga, 0, none⟩ = some (.int .i64 a0)) (h1 : w.cell? ⟨ga, 1, none⟩ = some (.int .i64 a1)) (h2 : w.cell? ⟨gb, 0, none⟩ = some (.int .i64 b0)) (h3 : w.cell? ⟨gb, 1, none⟩ = some (.int .i64 b1)) :
    Calls Tryz.prog 72 #[.slice (some ⟨ga, 0, none⟩) 2 2, .slice (some ⟨gb, 0, none⟩) 2 2] w fun e w' => e = .returned (.int .i64 (cmp2 (a0, a1) (b0, b1))) ∧ w = w' := by
  obtain ⟨c, hc⟩ : ∃ c, Lib.compareInt a0 b0 = c := ⟨_, rfl⟩
  obtain ⟨d, hd⟩ : ∃ d, Lib.compareInt a1 b1 = d := ⟨_, rfl⟩
  have HC := Lib.hid hc; have HD := Lib.hid hd
  have HE : Hid (cmp2 (a0, a1) (b0, b1) = if c = 0 then d else c) := Lib.hid (by
    rw [← hc, ← hd, compareInt_eq, compareInt_eq]; unfold cmp2; simp only
    by_cases p1 : a0 < b0
    · simp [p1]
    · by_cases p2 : b0 < a0
      · simp [p1, p2]
      · simp [p1, p2])
  clear hc hd
  go_enter Tryz.func72, Tryz.ntmps72
  go_wp2
  go_loop [11] (fun i => i = .int .i64 0 ∨ (i = .int .i64 1 ∧ Hid (c = 0)) ∨ (i = .int .i64 2 ∧ Hid (c = 0) ∧ Hid (d = 0))) (fun i => 2 - (intOf i).toNat)
  case atStart => exact .inl rfl
  case round =>
    rcases hrel with rfl | ⟨rfl, hc⟩ | ⟨rfl, hc, hd⟩
    · by_cases h0c : c = 0
      · have H0 := Lib.hid h0c
        have hb : (c != 0) = false := by simpa using h0c
        clear h0c
        go_wp2_with (go_at_call 53; refine (Tryz.cmp_Compare_int a0 b0 _).mono ?_; rw [HC.out]; rintro e w' ⟨rfl, rfl⟩)
        go_round
        case rel => exact .inr (.inl ⟨rfl, H0⟩)
        case measure => simp [intOf]
      · have H0 := Lib.hid h0c
        have hb : (c != 0) = true := by simpa using h0c
        clear h0c
        go_wp2_with (go_at_call 53; refine (Tryz.cmp_Compare_int a0 b0 _).mono ?_; rw [HC.out]; rintro e w' ⟨rfl, rfl⟩)
        go_ret
        exact ⟨by rw [HE.out, if_neg H0.out]; rfl, rfl⟩
    · by_cases h0c : d = 0
      · have H0 := Lib.hid h0c
        have hb : (d != 0) = false := by simpa using h0c
        clear h0c
        go_wp2_with (go_at_call 53; refine (Tryz.cmp_Compare_int a1 b1 _).mono ?_; rw [HD.out]; rintro e w' ⟨rfl, rfl⟩)
        go_round
        case rel => exact .inr (.inr ⟨rfl, hc, H0⟩)
        case measure => simp [intOf]
      · have H0 := Lib.hid h0c
        have hb : (d != 0) = true := by simpa using h0c
        clear h0c
        go_wp2_with (go_at_call 53; refine (Tryz.cmp_Compare_int a1 b1 _).mono ?_; rw [HD.out]; rintro e w' ⟨rfl, rfl⟩)
        go_ret
        exact ⟨by rw [HE.out, if_pos hc.out]; rfl, rfl⟩
    · go_wp2
      go_ret
      exact ⟨by rw [HE.out, if_pos hc.out, hd.out]; rfl, rfl⟩

set_option maxHeartbeats 1000000 in
theorem ordered_grow (a0 a1 b0 b1 : Int) (w : World) :
    Calls Tryz.prog 35 #[.agg #[.int .i64 a0, .int .i64 a1], .agg #[.int .i64 b0, .int .i64 b1]] w fun e w' => e = .returned (.int .i64 (cmp2 (a0, a1) (b0, b1))) ∧ ∃ q os, w' = Sort.grow (w.drewN q) os := by
  have k0 := (Blk.new w 62 #[.int .i64 a0, .int .i64 a1]).alloc (.cells #[.int .i64 b0, .int .i64 b1] 62)
  have k1 := Blk.new (w.alloc (.cells #[.int .i64 a0, .int .i64 a1] 62)) 62 #[.int .i64 b0, .int .i64 b1]
  rw [World.size_alloc] at k1
  go_enter Tryz.func35, Tryz.ntmps35
  go_wp2
  obtain ⟨W, hW⟩ : ∃ W, (w.alloc (.cells #[.int .i64 a0, .int .i64 a1] 62)).alloc (.cells #[.int .i64 b0, .int .i64 b1] 62) = W := ⟨_, rfl⟩
  rw [hW] at k0 k1 ⊢
  have HW := Lib.hid hW; clear hW
  refine wp_region_text 3 (fun w' => ∃ q, w' = W.drewN q) (by kernel_rfl) (by kernel_rfl) ⟨1, rfl⟩ ?_
  simp only [List.take, List.drop]
  apply StepsD.run
  · go_simp
    done
  · rintro w' ⟨q, rfl⟩ K hK
    go_simp
    exact hK _ ⟨q, rfl⟩
  · simp [Act.put]
    done
  apply StepsD.run
  · go_simp
    done
  · rintro w' ⟨q, rfl⟩ K hK
    go_simp
    exact hK _ ⟨q, rfl⟩
  · simp [Act.put]
    done
  apply StepsD.run
  · go_simp
    done
  · rintro w' ⟨q, rfl⟩ K hK
    go_simp
    refine (compare2_any _ _ _ _ _ _ _ ((k0.drewN q).cell 0) ((k0.drewN q).cell 1) ((k1.drewN q).cell 0) ((k1.drewN q).cell 1)).mono ?_
    rintro e w1 ⟨rfl, rfl⟩
    exact hK _ ⟨q, rfl⟩
  · simp [Act.put]
    done
  refine StepsD.done ?_
  rintro w' ⟨q, rfl⟩
  go_wp2
  go_ret
  refine ⟨rfl, q, (#[.cells #[.int .i64 a0, .int .i64 a1] 62 (0, 0)] ++ #[.cells #[.int .i64 b0, .int .i64 b1] 62 (0, 0)]), ?_⟩
  rw [← HW.out, Sort.alloc_eq_grow, Sort.alloc_eq_grow, Sort.grow_grow]
  rfl

/-! ### the library's sort -/
def encC (x : Int × Int) : List Value := [.int .i64 x.1, .int .i64 x.2]
theorem encC_len (x : Int × Int) : (encC x).length = 2 := rfl
theorem encC_one (x : Int × Int) : ∀ v ∈ encC x, v.oneCell' = true := by intro v hv; simp [encC] at hv; rcases hv with rfl | rfl <;> rfl
/-- The cells of a list, one behind the other. -/
def cellsC (l : List (Int × Int)) : List Value := l.flatMap encC
theorem ltC (x y : Int × Int) : ltOf cmp2 x y = (decide (x.1 < y.1) || (decide (x.1 = y.1) && decide (x.2 < y.2))) := by
  unfold ltOf cmp2
  by_cases h1 : x.1 < y.1
  · simp [h1]
  · by_cases h2 : y.1 < x.1
    · have h3 : ¬ x.1 = y.1 := by omega
      simp [h1, h2, h3]
    · have h3 : x.1 = y.1 := by omega
      by_cases h4 : x.2 < y.2
      · simp [h3, h4]
      · by_cases h5 : y.2 < x.2
        · simp [h3, h4, h5]
        · simp [h3, h4, h5]
theorem swoC : SWO (ltOf cmp2) where
  irrefl x := by rw [ltC]; simp
  trans x y z h1 h2 := by
    rw [ltC] at *
    simp only [Bool.or_eq_true, Bool.and_eq_true, decide_eq_true_eq] at *
    omega
  ntrans x y z h1 h2 := by
    rw [ltC] at *
    simp only [Bool.or_eq_false_iff, Bool.and_eq_false_iff, decide_eq_false_iff_not] at *
    omega
theorem totC (x y : Int × Int) (h1 : ltOf cmp2 x y = false) (h2 : ltOf cmp2 y x = false) : x = y := by
  rw [ltC] at *
  simp only [Bool.or_eq_false_iff, Bool.and_eq_false_iff, decide_eq_false_iff_not] at *
  obtain ⟨a, b⟩ := x
  obtain ⟨c, d⟩ := y
  simp only at *
  have e1 : a = c := by omega
  have e2 : b = d := by omega
  rw [e1, e2]
def leC (x y : Int × Int) : Bool := !ltOf cmp2 y x
/-- Cells, ascending. -/
def sortC (l : List (Int × Int)) : List (Int × Int) := l.mergeSort leC
theorem sortC_length (l : List (Int × Int)) : (sortC l).length = l.length := List.length_mergeSort ..
theorem sortC_perm (l : List (Int × Int)) : (sortC l).Perm l := List.mergeSort_perm ..
theorem leC_trans (x y z : Int × Int) (h1 : leC x y = true) (h2 : leC y z = true) : leC x z = true := by
  unfold leC at *
  simp only [Bool.not_eq_true'] at *
  exact swoC.ntrans z y x h2 h1
theorem leC_total (x y : Int × Int) : (leC x y || leC y x) = true := by
  unfold leC
  cases h1 : ltOf cmp2 y x <;> cases h2 : ltOf cmp2 x y <;> simp
  have := swoC.trans _ _ _ h1 h2
  rw [swoC.irrefl] at this; cases this
theorem sortC_sorted (l : List (Int × Int)) : (sortC l).Pairwise fun x y => leC x y = true := List.pairwise_mergeSort leC_trans leC_total l

theorem flat_getC (l : List (Int × Int)) : ∀ t : Nat, (cellsC l)[t]? = (l[t / 2]?).bind fun x => (encC x)[t % 2]? := by
  induction l with
  | nil => intro t; simp [cellsC]
  | cons x l ih =>
    intro t
    unfold cellsC at *
    rw [List.flatMap_cons, List.getElem?_append, encC_len]
    split
    · rename_i h
      rw [Nat.div_eq_of_lt h, Nat.mod_eq_of_lt h]; simp
    · rename_i h
      rw [ih, show t / 2 = (t - 2) / 2 + 1 by omega, show t % 2 = (t - 2) % 2 by omega, List.getElem?_cons_succ]
theorem flatK_toListC (d : Array (Int × Int)) : (flatK encC 2 d).toList = cellsC d.toList := by
  apply List.ext_getElem?
  intro t
  rw [flat_getC]
  by_cases ht : t < d.size * 2
  · have h6 : t / 2 < d.size := by omega
    have e1 := get_flatK encC 2 d t ht
    rw [getElem!_pos _ t (by simpa using ht), getElem!_pos d (t / 2) h6] at e1
    have h2 : t % 2 < (encC d[t / 2]).length := by rw [encC_len]; omega
    rw [getElem!_pos _ (t % 2) h2] at e1
    rw [Array.getElem?_toList, Array.getElem?_eq_getElem (by simpa using ht), e1, Array.getElem?_toList, Array.getElem?_eq_getElem h6]
    simp
  · rw [List.getElem?_eq_none (by simpa using ht), Array.getElem?_toList, Array.getElem?_eq_none (by omega)]; rfl
theorem cellsC_len (l : List (Int × Int)) : (cellsC l).length = l.length * 2 := by
  induction l with
  | nil => rfl
  | cons x l ih => unfold cellsC at *; rw [List.flatMap_cons, List.length_append, encC_len, ih, List.length_cons]; omega
theorem cellsC_snoc (l : List (Int × Int)) (x : Int × Int) : cellsC (l ++ [x]) = cellsC l ++ [.int .i64 x.1, .int .i64 x.2] := by simp [cellsC, List.flatMap_append, encC]
theorem holdsC_own {base g cap : Nat} {l : List (Int × Int)} {w : World} {e : TypeId} (h : w.ownsRow base e 2 (.slice (some ⟨g, 0, none⟩) l.length cap) l.length (cellsC l)) : HoldsK encC 2 w g 0 l.toArray := by
  intro j hj
  rw [size_flatK, List.size_toArray] at hj
  have h2 : j < (flatK encC 2 l.toArray).size := by rw [size_flatK]; simpa using hj
  refine ⟨?_, by have := h.frozenAt j; simpa using this⟩
  rw [Nat.zero_add, h.cellAt j hj, ← show l.toArray.toList = l from rfl, ← flatK_toListC, Array.getElem?_toList, Array.getElem?_eq_getElem h2, getElem!_pos _ j h2]
  rfl
theorem heap_sortedP {w : World} {g n : Nat} {os : Array Obj} {cur : Array Value} {e : TypeId} {fr : Nat × Nat} (d : Array Value) (hb : w.heap[g]? = some (.cells cur e fr)) :
    (grow (putRow id (Sort.ahead w n) g 0 d) os).heap[g]? = some (.cells (putCells id 0 d cur) e fr) := by
  have hg : g < w.heap.size := (Array.getElem?_eq_some_iff.1 hb).1
  rw [heap_grow_old _ _ (by simpa using hg)]
  simp [putRow, mapBlock, Sort.ahead, Array.getElem?_modify, hb, onCells]
theorem grownBy_sortedP {w : World} {g n : Nat} {os : Array Obj} (d : Array Value) : w.grownBy (grow (putRow id (Sort.ahead w n) g 0 d) os) (some g) := by
  refine ⟨rfl, rfl, rfl, by simp, fun k hk hne => ?_⟩
  rw [heap_grow_old _ _ (by simpa using hk)]
  have : g ≠ k := fun e => hne (by rw [e])
  simp [putRow, mapBlock, Sort.ahead, Array.getElem?_modify, this]
theorem take_putCellsP (cur : Array Value) (ts : Array Value) (h : ts.size ≤ cur.size) : (putCells id 0 ts cur).toList.take ts.size = ts.toList := by
  apply List.ext_getElem?
  intro j
  by_cases hj : j < ts.size
  · rw [List.getElem?_take_of_lt hj, Array.getElem?_toList]
    simp [putCells, hj, show j < cur.size by omega]
  · rw [List.getElem?_take_eq_none (by omega), List.getElem?_eq_none (by simp; omega)]
theorem isAggC (w : World) : (isAgg 62).run Tryz.prog w = .ok true w := by kernel_rfl
theorem sizeOfC (w : World) : (Go.sizeOf 62).run Tryz.prog w = .ok 2 w := by kernel_rfl
theorem cmpLaysC (blk off size : Nat) (w : World) : CmpLays Tryz.prog 35 #[] encC 2 cmp2 blk off size w :=
  fun _ _ _ _ x y => ordered_grow x.1 x.2 y.1 y.2 _

/-- Behind the sort the same slice owns the cells, ascending. -/
theorem sortC_any (base g cap : Nat) (l : List (Int × Int)) (w : World) (h : w.ownsRow base 62 2 (.slice (some ⟨g, 0, none⟩) l.length cap) l.length (cellsC l)) (hl : l.length ≤ 1000000) :
    Calls Tryz.prog 34 #[.slice (some ⟨g, 0, none⟩) l.length cap, .func (.func 35) #[] #[]] w fun e w' => e = .returned (.tuple #[]) ∧
      w'.ownsRow base 62 2 (.slice (some ⟨g, 0, none⟩) l.length cap) l.length (cellsC (sortC l)) ∧ w.grownBy w' (some g) := by
  have eg : ∀ args w, (callFunc 35 args).run Tryz.prog w = .ok (.enter 35 args) w := enters_of Tryz.func35 (by kernel_rfl) rfl
  obtain ⟨g', cap', cur, hv, hbase, hb, hnc, hcap, hcur, htake⟩ : ∃ g' cap' cur, Value.slice (some ⟨g, 0, none⟩) l.length cap = .slice (some ⟨g', 0, none⟩) l.length cap' ∧ base ≤ g' ∧ w.heap[g']? = some (.cells cur 62 (0, 0)) ∧ l.length ≤ cap' ∧ cap' ≤ maxLen ∧ cur.size = cap' * 2 ∧ cur.toList.take (l.length * 2) = cellsC l := by
    rcases h.2 with ⟨h0, _⟩ | h0
    · cases h0
    · exact h0
  cases hv
  have hlt : g < w.heap.size := (Array.getElem?_eq_some_iff.1 hb).1
  have hcon := Tryz.slices_SortFunc_total_f88 2 isAggC sizeOfC encC encC_len encC_one cmp2 swoC 35 #[] g 0 cap l.toArray w eg (cmpLaysC g 0 _ w) (holdsC_own h) hlt (by simp; omega) totC
  simp only [List.size_toArray] at hcon
  refine Calls.mono hcon ?_
  rintro e w' ⟨he, n, os, hw⟩
  have hl' : (sortC l).length = l.length := sortC_length l
  refine ⟨he, ?_, ?_⟩
  · subst hw
    refine ⟨by rw [cellsC_len, hl'], .inr ⟨g, cap, _, rfl, hbase, heap_sortedP _ hb, hnc, hcap, by simp [putCells, hcur], ?_⟩⟩
    have ez : l.length * 2 = (flatK encC 2 (sortC l).toArray).size := by rw [size_flatK, List.size_toArray, hl']
    show ((putCells id 0 (flatK encC 2 (sortC l).toArray) cur).toList.take (l.length * 2)) = cellsC (sortC l)
    rw [ez, take_putCellsP _ _ (by rw [size_flatK, List.size_toArray, hl', hcur]; exact Nat.mul_le_mul_right 2 hnc), flatK_toListC]
  · subst hw
    exact grownBy_sortedP _
end Go.Proofs.YtjimdnmdnjhnjaaGreatDoor
