/- The library's sort, over parts of a face. -/
import Derived.Shelf.SlSortCmp.NoneTotal
import Derived.Sort.OwnSorted
import Derived.Test.YtlnkgjkjdllckaaGreatDoorZpCvO
import Derived.Test.YtlnkgjkjdllckaaGreatDoorZpSort
namespace Go.Proofs.YtlnkgjkjdllckaaGreatDoor
open Go.RowKit Go.Sort Go.Shelf

/-- A part with ends that are points. -/
abbrev GP := { p : PV // p.ok ∧ 0 < p.b ∧ 0 < p.d }
instance : Inhabited GP := ⟨⟨⟨0, 1, 1, 1, false, false⟩, ⟨by simp [NN], by simp [NN], by simp [NN], by simp [NN]⟩, by simp, by simp⟩⟩
def encP (x : GP) : List Value := [.int .i64 x.1.a, .int .i64 x.1.b, .int .i64 x.1.c, .int .i64 x.1.d, .bool x.1.none, .bool x.1.up]
def cfP (x y : GP) : Int := cmpI (x.1.a * y.1.b) (y.1.a * x.1.b)
theorem cmpI_neg (a b : Int) : decide (cmpI a b < 0) = decide (a < b) := by
  unfold cmpI; rw [decide_eq_decide]; split
  · omega
  · split <;> omega
theorem ltP (x y : GP) : ltOf cfP x y = decide (x.1.a * y.1.b < y.1.a * x.1.b) := cmpI_neg _ _
theorem frac_trans {a b c d e f : Int} (hb : 0 < b) (hd : 0 < d) (hf : 0 < f) (h1 : a * d < c * b) (h2 : c * f < e * d) : a * f < e * b := by
  have e1 : a * d * f < c * b * f := Int.mul_lt_mul_of_pos_right h1 hf
  have e2 : c * f * b < e * d * b := Int.mul_lt_mul_of_pos_right h2 hb
  have e3 : a * f * d < e * b * d := by
    have h3 : a * f * d = a * d * f := by rw [Int.mul_assoc, Int.mul_comm f d, ← Int.mul_assoc]
    have h4 : c * b * f = c * f * b := by rw [Int.mul_assoc, Int.mul_comm b f, ← Int.mul_assoc]
    have h5 : e * d * b = e * b * d := by rw [Int.mul_assoc, Int.mul_comm d b, ← Int.mul_assoc]
    rw [h3, ← h5]; rw [h4] at e1; exact Int.lt_trans e1 e2
  exact Int.lt_of_mul_lt_mul_right e3 (by omega)
theorem frac_trans_le {a b c d e f : Int} (hb : 0 < b) (hd : 0 < d) (hf : 0 < f) (h1 : a * d ≤ c * b) (h2 : c * f ≤ e * d) : a * f ≤ e * b := by
  have e1 : a * d * f ≤ c * b * f := Int.mul_le_mul_of_nonneg_right h1 (by omega)
  have e2 : c * f * b ≤ e * d * b := Int.mul_le_mul_of_nonneg_right h2 (by omega)
  have e3 : a * f * d ≤ e * b * d := by
    have h3 : a * f * d = a * d * f := by rw [Int.mul_assoc, Int.mul_comm f d, ← Int.mul_assoc]
    have h4 : c * b * f = c * f * b := by rw [Int.mul_assoc, Int.mul_comm b f, ← Int.mul_assoc]
    have h5 : e * d * b = e * b * d := by rw [Int.mul_assoc, Int.mul_comm d b, ← Int.mul_assoc]
    rw [h3, ← h5]; rw [h4] at e1; exact Int.le_trans e1 e2
  exact Int.le_of_mul_le_mul_right e3 hd
theorem swoP : SWO (ltOf cfP) where
  irrefl x := by rw [ltP]; simp
  trans x y z h1 h2 := by
    rw [ltP] at *
    simp only [decide_eq_true_eq] at *
    exact frac_trans x.2.2.1 y.2.2.1 z.2.2.1 h1 h2
  ntrans x y z h1 h2 := by
    rw [ltP] at *
    simp only [decide_eq_false_iff_not, Int.not_lt] at *
    exact frac_trans_le z.2.2.1 y.2.2.1 x.2.2.1 h2 h1
theorem encP_len (x : GP) : (encP x).length = 6 := rfl
theorem encP_one (x : GP) : ∀ v ∈ encP x, v.oneCell' = true := by intro v hv; simp [encP] at hv; rcases hv with rfl | rfl | rfl | rfl | rfl | rfl <;> rfl

theorem cmpLaysP (blk off size : Nat) (w : World) : CmpLays Tryz.prog 48 #[] encP 6 cfP blk off size w :=
  fun _ _ _ _ x y => gapCmp_any x.1 y.1 x.2.1 y.2.1 _

theorem flat_get (l : List GP) : ∀ t : Nat, (l.flatMap encP)[t]? = (l[t / 6]?).bind fun x => (encP x)[t % 6]? := by
  induction l with
  | nil => intro t; simp
  | cons x l ih =>
    intro t
    rw [List.flatMap_cons, List.getElem?_append, encP_len]
    split
    · rename_i h
      rw [Nat.div_eq_of_lt h, Nat.mod_eq_of_lt h]; simp
    · rename_i h
      rw [ih, show t / 6 = (t - 6) / 6 + 1 by omega, show t % 6 = (t - 6) % 6 by omega, List.getElem?_cons_succ]
theorem flatK_toList (d : Array GP) : (flatK encP 6 d).toList = d.toList.flatMap encP := by
  apply List.ext_getElem?
  intro t
  rw [flat_get]
  by_cases ht : t < d.size * 6
  · have h6 : t / 6 < d.size := by omega
    have e1 := get_flatK encP 6 d t ht
    rw [getElem!_pos _ t (by simpa using ht), getElem!_pos d (t / 6) h6] at e1
    have h2 : t % 6 < (encP d[t / 6]).length := by rw [encP_len]; omega
    rw [getElem!_pos _ (t % 6) h2] at e1
    rw [Array.getElem?_toList, Array.getElem?_eq_getElem (by simpa using ht), e1, Array.getElem?_toList, Array.getElem?_eq_getElem h6]
    simp
  · rw [List.getElem?_eq_none (by simpa using ht), Array.getElem?_toList, Array.getElem?_eq_none (by omega)]; rfl
theorem flat_len (l : List GP) : (l.flatMap encP).length = l.length * 6 := by
  induction l with
  | nil => rfl
  | cons x l ih => rw [List.flatMap_cons, List.length_append, encP_len, ih, List.length_cons]; omega
theorem holdsK_own {base g cap : Nat} {l : List GP} {w : World} {e : TypeId} (h : w.ownsRow base e 6 (.slice (some ⟨g, 0, none⟩) l.length cap) l.length (l.flatMap encP)) : HoldsK encP 6 w g 0 l.toArray := by
  intro j hj
  rw [size_flatK, List.size_toArray] at hj
  have h2 : j < (flatK encP 6 l.toArray).size := by rw [size_flatK]; simpa using hj
  refine ⟨?_, by have := h.frozenAt j; simpa using this⟩
  rw [Nat.zero_add, h.cellAt j hj, ← show l.toArray.toList = l from rfl, ← flatK_toList, Array.getElem?_toList, Array.getElem?_eq_getElem h2, getElem!_pos _ j h2]
  rfl
theorem heap_sortedP {w : World} {g n : Nat} {os : Array Obj} {cur : Array Value} {e : TypeId} {fr : Nat × Nat} (d : Array Value) (hb : w.heap[g]? = some (.cells cur e fr)) :
    (grow (putRow id (Sort.ahead w n) g 0 d) os).heap[g]? = some (.cells (putCells id 0 d cur) e fr) := by
  have hg : g < w.heap.size := (Array.getElem?_eq_some_iff.1 hb).1
  rw [heap_grow_old _ _ (by simpa using hg)]
  simp [putRow, mapBlock, Sort.ahead, Array.getElem?_modify, hb, onCells]
theorem grownBy_sortedP {w : World} {g n : Nat} {os : Array Obj} (d : Array Value) : w.grownBy (grow (putRow id (Sort.ahead w n) g 0 d) os) (some g) := by
  refine ⟨rfl, rfl, rfl, by simp, fun k hk hne => ?_⟩
  rw [heap_grow_old _ _ (by simpa using hk)]
  have : g ≠ k := fun e => hne (by rw [e])
  simp [putRow, mapBlock, Sort.ahead, Array.getElem?_modify, this]
theorem take_putCellsP (cur : Array Value) (ts : Array Value) (h : ts.size ≤ cur.size) : (putCells id 0 ts cur).toList.take ts.size = ts.toList := by
  apply List.ext_getElem?
  intro j
  by_cases hj : j < ts.size
  · rw [List.getElem?_take_of_lt hj, Array.getElem?_toList]
    simp [putCells, hj, show j < cur.size by omega]
  · rw [List.getElem?_take_eq_none (by omega), List.getElem?_eq_none (by simp; omega)]

/-- Behind the sort the same slice owns the parts, ascending. -/
theorem sortP_any (base g cap : Nat) (l : List GP) (w : World) (h : w.ownsRow base 89 6 (.slice (some ⟨g, 0, none⟩) l.length cap) l.length (l.flatMap encP)) (hl : l.length ≤ 1000000) :
    Calls Tryz.prog 47 #[.slice (some ⟨g, 0, none⟩) l.length cap, .func (.func 48) #[] #[]] w fun e w' => e = .returned (.tuple #[]) ∧
      ∃ l' : List GP, l'.Perm l ∧ l'.Pairwise (fun x y => x.1.a * y.1.b ≤ y.1.a * x.1.b) ∧ w'.ownsRow base 89 6 (.slice (some ⟨g, 0, none⟩) l.length cap) l.length (l'.flatMap encP) ∧ w.grownBy w' (some g) := by
  have eg : ∀ args w, (callFunc 48 args).run Tryz.prog w = .ok (.enter 48 args) w := enters_of Tryz.func48 (by kernel_rfl) rfl
  obtain ⟨g', cap', cur, hv, hbase, hb, hnc, hcap, hcur, htake⟩ : ∃ g' cap' cur, Value.slice (some ⟨g, 0, none⟩) l.length cap = .slice (some ⟨g', 0, none⟩) l.length cap' ∧ base ≤ g' ∧ w.heap[g']? = some (.cells cur 89 (0, 0)) ∧ l.length ≤ cap' ∧ cap' ≤ maxLen ∧ cur.size = cap' * 6 ∧ cur.toList.take (l.length * 6) = l.flatMap encP := by
    rcases h.2 with ⟨h0, _⟩ | h0
    · cases h0
    · exact h0
  cases hv
  have hlt : g < w.heap.size := (Array.getElem?_eq_some_iff.1 hb).1
  have hcon := AnyQ.slices_SortFunc Tryz.sortPart 6 Tryz.isAgg89 Tryz.sizeOf89 encP encP_len encP_one cfP swoP 48 #[] g 0 cap l.toArray w eg (cmpLaysP g 0 _ w) (holdsK_own h) hlt (by simp; omega)
  simp only [List.size_toArray] at hcon
  refine Calls.mono hcon ?_
  rintro e w' ⟨he, d', n, os, hp, hs, hw⟩
  have hsz : d'.size = l.length := by simpa using hp.1
  have hl' : d'.toList.length = l.length := by simpa using hsz
  refine ⟨he, d'.toList, ?_, ?_, ?_, ?_⟩
  · have := hp.2.2
    rw [← hsz] at this
    have e1 : d'.extract 0 d'.size = d' := by simp
    have e2 : l.toArray.extract 0 d'.size = l.toArray := by rw [hsz]; simp
    rw [e1, e2] at this; exact this
  · rw [List.pairwise_iff_getElem]
    intro i j hi hj hij
    have := hs i j (Nat.zero_le _) hij (by simpa [hsz] using hj)
    rw [getElem!_pos d' i (by simpa using hi), getElem!_pos d' j (by simpa using hj), ltP] at this
    simpa using this
  · subst hw
    refine ⟨by rw [flat_len, hl'], .inr ⟨g, cap, _, rfl, hbase, heap_sortedP _ hb, hnc, hcap, by simp [putCells, hcur], ?_⟩⟩
    have ez : l.length * 6 = (flatK encP 6 d').size := by rw [size_flatK, hsz]
    rw [ez, take_putCellsP _ _ (by rw [size_flatK, hsz, hcur]; omega), flatK_toList]
  · subst hw
    exact grownBy_sortedP _
end Go.Proofs.YtlnkgjkjdllckaaGreatDoor
