/- Contract: a comparison makes new blocks, and does nothing else. The library's texts at this program: the parts of slices.SortFunc of the parts of a face. The library's sort, over parts of a face. Contract: the first gap of some parts. -/
import Derived.Sort.Grow
import Derived.Shelf.SlSortCmp.WholeK
import Derived.Ground.SlsfProg
import Derived.Test.YtaekcfancfoccaaGreatDoorProg
import Derived.Shelf.SlSortCmp.NoneTotal
import Derived.Sort.OwnSorted
import Derived.Test.YtaekcfancfoccaaGreatDoorZmZkCvM
import Derived.Test.YtaekcfancfoccaaGreatDoorZmZkCvU
namespace Go.Proofs.YtaekcfancfoccaaGreatDoor
open Go.RowKit

set_option maxHeartbeats 400000 in
theorem compare_grow (n d m k : Int) (hn : 0 ≤ n ∧ n ≤ 9223372036854775807) (hd : 0 ≤ d ∧ d ≤ 9223372036854775807) (hm : 0 ≤ m ∧ m ≤ 9223372036854775807) (hk : 0 ≤ k ∧ k ≤ 9223372036854775807) (w : World) :
    Calls Tryz.prog 96 #[.agg #[.int .i64 n, .int .i64 d], .agg #[.int .i64 m, .int .i64 k]] w fun e w' => e = .returned (.int .i64 (cmpI (n * k) (m * d))) ∧ ∃ q os, w' = Sort.grow (w.drewN q) os := by
  go_enter Tryz.func96, Tryz.ntmps96
  go_wp2_with fail
  refine (mulU_any n k hn hk _).mono ?_
  rintro e w1 ⟨h, l, rfl, E1, b1, b2, rfl⟩
  go_wp2_with fail
  refine (mulU_any m d hm hd _).mono ?_
  rintro e w1 ⟨h', l', rfl, E2, b3, b4, rfl⟩
  go_wp2_with (go_at_call 122; refine (cmpU_any _ _ _).mono ?_; rintro e w1 ⟨rfl, rfl⟩)
  refine (orTwo_any (cmpI h h') (cmpI l l') _ _ ?c0 ?c1).mono ?_
  case c0 => go_simp
  case c1 => go_simp
  rintro e w1 ⟨rfl, rfl⟩
  go_wp2
  go_ret
  refine ⟨by rw [← cmp_two E1.out E2.out b2 b4]; rfl, 0, _, by simp only [Sort.alloc_eq_grow, Sort.grow_grow]; rfl⟩

set_option maxHeartbeats 400000 in
theorem gapCmp_any (p q : PV) (hp : p.ok) (hq : q.ok) (w : World) :
    Calls Tryz.prog 100 #[.agg (ptP p), .agg (ptP q)] w fun e w' => e = .returned (.int .i64 (cmpI (p.a * q.b) (q.a * p.b))) ∧ ∃ n os, w' = Sort.grow (w.drewN n) os := by
  obtain ⟨a, b, c, d, none, up⟩ := p
  obtain ⟨a', b', c', d', none', up'⟩ := q
  obtain ⟨h1, h2, _, _⟩ := hp
  obtain ⟨h3, h4, _, _⟩ := hq
  simp only at h1 h2 h3 h4
  unfold ptP ptC
  go_enter Tryz.func100, Tryz.ntmps100
  go_wp2_with fail
  refine (compare_grow a b a' b' h1 h2 h3 h4 _).mono ?_
  rintro e w1 ⟨rfl, n, os, hw⟩
  have HW := Lib.hid hw; clear hw
  go_wp2
  go_ret
  refine ⟨rfl, n, (#[.cells #[.int .i64 a, .int .i64 b, .int .i64 c, .int .i64 d, .bool none, .bool up] 137 (0, 0)] ++ #[.cells #[.int .i64 a', .int .i64 b', .int .i64 c', .int .i64 d', .bool none', .bool up'] 137 (0, 0)]) ++ os, ?_⟩
  rw [HW.out, Sort.alloc_eq_grow, Sort.alloc_eq_grow, Sort.grow_grow, ← Sort.grow_grow (w.drewN n)]
  rfl
end Go.Proofs.YtaekcfancfoccaaGreatDoor

namespace Go.Proofs
open Go.Shelf
def Tryz.sortPart_ren : Go.Shelf.Ren := ⟨fun | 6 => 99 | 15 => 126 | 14 => 125 | 28 => 159 | 29 => 160 | 20 => 151 | 21 => 152 | 22 => 153 | 23 => 154 | 24 => 155 | 25 => 156 | 26 => 157 | 27 => 158 | 46 => 172 | 47 => 173 | 48 => 174 | 49 => 175 | 50 => 176 | 57 => 190 | n => n, fun | 22 => 144 | 24 => 137 | 25 => 181 | 3 => 3 | 39 => 204 | 0 => 0 | 53 => 234 | 55 => 195 | 4 => 4 | 46 => 228 | 45 => 227 | 50 => 126 | 5 => 5 | 9 => 9 | 66 => 248 | 70 => 123 | 76 => 266 | 77 => 31 | n => n, fun | n => n⟩
theorem Tryz.sortPart : Go.Proofs.SlLaysF0.n6 Tryz.prog Tryz.sortPart_ren := {
  mixed := by kernel_rfl
  f6 := ⟨Tryz.f99.name, by decide, Tryz.func99.trans (congrArg some (by kernel_rfl))⟩
  f14 := ⟨Tryz.f125.name, by decide, Tryz.func125.trans (congrArg some (by kernel_rfl))⟩
  f15 := Tryz.func126.trans (congrArg some (by kernel_rfl))
  f20 := ⟨Tryz.f151.name, by decide, Tryz.func151.trans (congrArg some (by kernel_rfl))⟩
  f21 := ⟨Tryz.f152.name, by decide, Tryz.func152.trans (congrArg some (by kernel_rfl))⟩
  f22 := ⟨Tryz.f153.name, by decide, Tryz.func153.trans (congrArg some (by kernel_rfl))⟩
  f23 := ⟨Tryz.f154.name, by decide, Tryz.func154.trans (congrArg some (by kernel_rfl))⟩
  f24 := ⟨Tryz.f155.name, by decide, Tryz.func155.trans (congrArg some (by kernel_rfl))⟩
  f25 := ⟨Tryz.f156.name, by decide, Tryz.func156.trans (congrArg some (by kernel_rfl))⟩
  f26 := ⟨Tryz.f157.name, by decide, Tryz.func157.trans (congrArg some (by kernel_rfl))⟩
  f27 := ⟨Tryz.f158.name, by decide, Tryz.func158.trans (congrArg some (by kernel_rfl))⟩
  f28 := Tryz.func159.trans (congrArg some (by kernel_rfl))
  f29 := Tryz.func160.trans (congrArg some (by kernel_rfl))
  f46 := ⟨Tryz.f172.name, by decide, Tryz.func172.trans (congrArg some (by kernel_rfl))⟩
  f47 := Tryz.func173.trans (congrArg some (by kernel_rfl))
  f48 := Tryz.func174.trans (congrArg some (by kernel_rfl))
  f49 := ⟨Tryz.f175.name, by decide, Tryz.func175.trans (congrArg some (by kernel_rfl))⟩
  f50 := ⟨Tryz.f176.name, by decide, Tryz.func176.trans (congrArg some (by kernel_rfl))⟩
  f57 := ⟨Tryz.f190.name, by decide, Tryz.func190.trans (congrArg some (by kernel_rfl))⟩
  t0 := Tryz.underlying0
  a0 := Tryz.isAgg0
  z0 := Tryz.sizeOf0
  v0 := Tryz.zeroValue0
  t3 := Tryz.underlying3
  a3 := Tryz.isAgg3
  z3 := Tryz.sizeOf3
  v3 := Tryz.zeroValue3
  t4 := Tryz.underlying4
  a4 := Tryz.isAgg4
  z4 := Tryz.sizeOf4
  v4 := Tryz.zeroValue4
  t5 := Tryz.underlying5
  a5 := Tryz.isAgg5
  z5 := Tryz.sizeOf5
  v5 := Tryz.zeroValue5
  t9 := Tryz.underlying9
  a9 := Tryz.isAgg9
  z9 := Tryz.sizeOf9
  v9 := Tryz.zeroValue9
  t22 := Tryz.underlying144
  a22 := Tryz.isAgg144
  z22 := Tryz.sizeOf144
  v22 := Tryz.zeroValue144
  t25 := Tryz.underlying181
  a25 := Tryz.isAgg181
  z25 := Tryz.sizeOf181
  v25 := Tryz.zeroValue181
  t39 := Tryz.underlying204
  a39 := Tryz.isAgg204
  z39 := Tryz.sizeOf204
  v39 := Tryz.zeroValue204
  t45 := Tryz.underlying227
  a45 := Tryz.isAgg227
  z45 := Tryz.sizeOf227
  v45 := Tryz.zeroValue227
  t46 := Tryz.underlying228
  a46 := Tryz.isAgg228
  z46 := Tryz.sizeOf228
  v46 := Tryz.zeroValue228
  t50 := Tryz.underlying126
  a50 := Tryz.isAgg126
  z50 := Tryz.sizeOf126
  v50 := Tryz.zeroValue126
  t53 := Tryz.underlying234
  a53 := Tryz.isAgg234
  z53 := Tryz.sizeOf234
  v53 := Tryz.zeroValue234
  t55 := Tryz.underlying195
  a55 := Tryz.isAgg195
  z55 := Tryz.sizeOf195
  v55 := Tryz.zeroValue195
  t66 := Tryz.underlying248
  a66 := Tryz.isAgg248
  z66 := Tryz.sizeOf248
  v66 := Tryz.zeroValue248
  t70 := Tryz.underlying123
  a70 := Tryz.isAgg123
  z70 := Tryz.sizeOf123
  v70 := Tryz.zeroValue123
  t76 := Tryz.underlying266
  a76 := Tryz.isAgg266
  z76 := Tryz.sizeOf266
  v76 := Tryz.zeroValue266
  t77 := Tryz.underlying31
  a77 := Tryz.isAgg31
  z77 := Tryz.sizeOf31
  v77 := Tryz.zeroValue31 }
end Go.Proofs

namespace Go.Proofs.YtaekcfancfoccaaGreatDoor
open Go.RowKit Go.Sort Go.Shelf

abbrev GP := { p : PV // p.ok ∧ 0 < p.b ∧ 0 < p.d }
instance : Inhabited GP := ⟨⟨⟨0, 1, 1, 1, false, false⟩, ⟨by simp [NN], by simp [NN], by simp [NN], by simp [NN]⟩, by simp, by simp⟩⟩
def encP (x : GP) : List Value := [.int .i64 x.1.a, .int .i64 x.1.b, .int .i64 x.1.c, .int .i64 x.1.d, .bool x.1.none, .bool x.1.up]
def cfP (x y : GP) : Int := cmpI (x.1.a * y.1.b) (y.1.a * x.1.b)
theorem cmpI_neg (a b : Int) : decide (cmpI a b < 0) = decide (a < b) := by
  unfold cmpI; rw [decide_eq_decide]; split
  · omega
  · split <;> omega
theorem ltP (x y : GP) : ltOf cfP x y = decide (x.1.a * y.1.b < y.1.a * x.1.b) := cmpI_neg _ _
theorem frac_trans {a b c d e f : Int} (hb : 0 < b) (hd : 0 < d) (hf : 0 < f) (h1 : a * d < c * b) (h2 : c * f < e * d) : a * f < e * b := by
  have e1 : a * d * f < c * b * f := Int.mul_lt_mul_of_pos_right h1 hf
  have e2 : c * f * b < e * d * b := Int.mul_lt_mul_of_pos_right h2 hb
  have e3 : a * f * d < e * b * d := by
    have h3 : a * f * d = a * d * f := by rw [Int.mul_assoc, Int.mul_comm f d, ← Int.mul_assoc]
    have h4 : c * b * f = c * f * b := by rw [Int.mul_assoc, Int.mul_comm b f, ← Int.mul_assoc]
    have h5 : e * d * b = e * b * d := by rw [Int.mul_assoc, Int.mul_comm d b, ← Int.mul_assoc]
    rw [h3, ← h5]; rw [h4] at e1; exact Int.lt_trans e1 e2
  exact Int.lt_of_mul_lt_mul_right e3 (by omega)
theorem frac_trans_le {a b c d e f : Int} (hb : 0 < b) (hd : 0 < d) (hf : 0 < f) (h1 : a * d ≤ c * b) (h2 : c * f ≤ e * d) : a * f ≤ e * b := by
  have e1 : a * d * f ≤ c * b * f := Int.mul_le_mul_of_nonneg_right h1 (by omega)
  have e2 : c * f * b ≤ e * d * b := Int.mul_le_mul_of_nonneg_right h2 (by omega)
  have e3 : a * f * d ≤ e * b * d := by
    have h3 : a * f * d = a * d * f := by rw [Int.mul_assoc, Int.mul_comm f d, ← Int.mul_assoc]
    have h4 : c * b * f = c * f * b := by rw [Int.mul_assoc, Int.mul_comm b f, ← Int.mul_assoc]
    have h5 : e * d * b = e * b * d := by rw [Int.mul_assoc, Int.mul_comm d b, ← Int.mul_assoc]
    rw [h3, ← h5]; rw [h4] at e1; exact Int.le_trans e1 e2
  exact Int.le_of_mul_le_mul_right e3 hd
theorem swoP : SWO (ltOf cfP) where
  irrefl x := by rw [ltP]; simp
  trans x y z h1 h2 := by
    rw [ltP] at *
    simp only [decide_eq_true_eq] at *
    exact frac_trans x.2.2.1 y.2.2.1 z.2.2.1 h1 h2
  ntrans x y z h1 h2 := by
    rw [ltP] at *
    simp only [decide_eq_false_iff_not, Int.not_lt] at *
    exact frac_trans_le z.2.2.1 y.2.2.1 x.2.2.1 h2 h1
theorem encP_len (x : GP) : (encP x).length = 6 := rfl
theorem encP_one (x : GP) : ∀ v ∈ encP x, v.oneCell' = true := by intro v hv; simp [encP] at hv; rcases hv with rfl | rfl | rfl | rfl | rfl | rfl <;> rfl

theorem cmpLaysP (blk off size : Nat) (w : World) : CmpLays Tryz.prog 100 #[] encP 6 cfP blk off size w :=
  fun _ _ _ _ x y => gapCmp_any x.1 y.1 x.2.1 y.2.1 _

theorem flat_get (l : List GP) : ∀ t : Nat, (l.flatMap encP)[t]? = (l[t / 6]?).bind fun x => (encP x)[t % 6]? := by
  induction l with
  | nil => intro t; simp
  | cons x l ih =>
    intro t
    rw [List.flatMap_cons, List.getElem?_append, encP_len]
    split
    · rename_i h
      rw [Nat.div_eq_of_lt h, Nat.mod_eq_of_lt h]; simp
    · rename_i h
      rw [ih, show t / 6 = (t - 6) / 6 + 1 by omega, show t % 6 = (t - 6) % 6 by omega, List.getElem?_cons_succ]
theorem flatK_toList (d : Array GP) : (flatK encP 6 d).toList = d.toList.flatMap encP := by
  apply List.ext_getElem?
  intro t
  rw [flat_get]
  by_cases ht : t < d.size * 6
  · have h6 : t / 6 < d.size := by omega
    have e1 := get_flatK encP 6 d t ht
    rw [getElem!_pos _ t (by simpa using ht), getElem!_pos d (t / 6) h6] at e1
    have h2 : t % 6 < (encP d[t / 6]).length := by rw [encP_len]; omega
    rw [getElem!_pos _ (t % 6) h2] at e1
    rw [Array.getElem?_toList, Array.getElem?_eq_getElem (by simpa using ht), e1, Array.getElem?_toList, Array.getElem?_eq_getElem h6]
    simp
  · rw [List.getElem?_eq_none (by simpa using ht), Array.getElem?_toList, Array.getElem?_eq_none (by omega)]; rfl
theorem flat_len (l : List GP) : (l.flatMap encP).length = l.length * 6 := by
  induction l with
  | nil => rfl
  | cons x l ih => rw [List.flatMap_cons, List.length_append, encP_len, ih, List.length_cons]; omega
theorem holdsK_own {base g cap : Nat} {l : List GP} {w : World} {e : TypeId} (h : w.ownsRow base e 6 (.slice (some ⟨g, 0, none⟩) l.length cap) l.length (l.flatMap encP)) : HoldsK encP 6 w g 0 l.toArray := by
  intro j hj
  rw [size_flatK, List.size_toArray] at hj
  have h2 : j < (flatK encP 6 l.toArray).size := by rw [size_flatK]; simpa using hj
  refine ⟨?_, by have := h.frozenAt j; simpa using this⟩
  rw [Nat.zero_add, h.cellAt j hj, ← show l.toArray.toList = l from rfl, ← flatK_toList, Array.getElem?_toList, Array.getElem?_eq_getElem h2, getElem!_pos _ j h2]
  rfl
theorem heap_sortedP {w : World} {g n : Nat} {os : Array Obj} {cur : Array Value} {e : TypeId} {fr : Nat × Nat} (d : Array Value) (hb : w.heap[g]? = some (.cells cur e fr)) :
    (grow (putRow id (Sort.ahead w n) g 0 d) os).heap[g]? = some (.cells (putCells id 0 d cur) e fr) := by
  have hg : g < w.heap.size := (Array.getElem?_eq_some_iff.1 hb).1
  rw [heap_grow_old _ _ (by simpa using hg)]
  simp [putRow, mapBlock, Sort.ahead, Array.getElem?_modify, hb, onCells]
theorem grownBy_sortedP {w : World} {g n : Nat} {os : Array Obj} (d : Array Value) : w.grownBy (grow (putRow id (Sort.ahead w n) g 0 d) os) (some g) := by
  refine ⟨rfl, rfl, rfl, by simp, fun k hk hne => ?_⟩
  rw [heap_grow_old _ _ (by simpa using hk)]
  have : g ≠ k := fun e => hne (by rw [e])
  simp [putRow, mapBlock, Sort.ahead, Array.getElem?_modify, this]
theorem take_putCellsP (cur : Array Value) (ts : Array Value) (h : ts.size ≤ cur.size) : (putCells id 0 ts cur).toList.take ts.size = ts.toList := by
  apply List.ext_getElem?
  intro j
  by_cases hj : j < ts.size
  · rw [List.getElem?_take_of_lt hj, Array.getElem?_toList]
    simp [putCells, hj, show j < cur.size by omega]
  · rw [List.getElem?_take_eq_none (by omega), List.getElem?_eq_none (by simp; omega)]

theorem sortP_any (base g cap : Nat) (l : List GP) (w : World) (h : w.ownsRow base 137 6 (.slice (some ⟨g, 0, none⟩) l.length cap) l.length (l.flatMap encP)) (hl : l.length ≤ 1000000) :
    Calls Tryz.prog 99 #[.slice (some ⟨g, 0, none⟩) l.length cap, .func (.func 100) #[] #[]] w fun e w' => e = .returned (.tuple #[]) ∧
      ∃ l' : List GP, l'.Perm l ∧ l'.Pairwise (fun x y => x.1.a * y.1.b ≤ y.1.a * x.1.b) ∧ w'.ownsRow base 137 6 (.slice (some ⟨g, 0, none⟩) l.length cap) l.length (l'.flatMap encP) ∧ w.grownBy w' (some g) := by
  have eg : ∀ args w, (callFunc 100 args).run Tryz.prog w = .ok (.enter 100 args) w := enters_of Tryz.func100 (by kernel_rfl) rfl
  obtain ⟨g', cap', cur, hv, hbase, hb, hnc, hcap, hcur, htake⟩ : ∃ g' cap' cur, Value.slice (some ⟨g, 0, none⟩) l.length cap = .slice (some ⟨g', 0, none⟩) l.length cap' ∧ base ≤ g' ∧ w.heap[g']? = some (.cells cur 137 (0, 0)) ∧ l.length ≤ cap' ∧ cap' ≤ maxLen ∧ cur.size = cap' * 6 ∧ cur.toList.take (l.length * 6) = l.flatMap encP := by
    rcases h.2 with ⟨h0, _⟩ | h0
    · cases h0
    · exact h0
  cases hv
  have hlt : g < w.heap.size := (Array.getElem?_eq_some_iff.1 hb).1
  have hcon := AnyQ.slices_SortFunc Tryz.sortPart 6 Tryz.isAgg137 Tryz.sizeOf137 encP encP_len encP_one cfP swoP 100 #[] g 0 cap l.toArray w eg (cmpLaysP g 0 _ w) (holdsK_own h) hlt (by simp; omega)
  simp only [List.size_toArray] at hcon
  refine Calls.mono hcon ?_
  rintro e w' ⟨he, d', n, os, hp, hs, hw⟩
  have hsz : d'.size = l.length := by simpa using hp.1
  have hl' : d'.toList.length = l.length := by simpa using hsz
  refine ⟨he, d'.toList, ?_, ?_, ?_, ?_⟩
  · have := hp.2.2
    rw [← hsz] at this
    have e1 : d'.extract 0 d'.size = d' := by simp
    have e2 : l.toArray.extract 0 d'.size = l.toArray := by rw [hsz]; simp
    rw [e1, e2] at this; exact this
  · rw [List.pairwise_iff_getElem]
    intro i j hi hj hij
    have := hs i j (Nat.zero_le _) hij (by simpa [hsz] using hj)
    rw [getElem!_pos d' i (by simpa using hi), getElem!_pos d' j (by simpa using hj), ltP] at this
    simpa using this
  · subst hw
    refine ⟨by rw [flat_len, hl'], .inr ⟨g, cap, _, rfl, hbase, heap_sortedP _ hb, hnc, hcap, by simp [putCells, hcur], ?_⟩⟩
    have ez : l.length * 6 = (flatK encP 6 d').size := by rw [size_flatK, hsz]
    rw [ez, take_putCellsP _ _ (by rw [size_flatK, hsz, hcur]; omega), flatK_toList]
  · subst hw
    exact grownBy_sortedP _
end Go.Proofs.YtaekcfancfoccaaGreatDoor

namespace Go.Proofs.YtaekcfancfoccaaGreatDoor
open Go.RowKit Go.Sort Go.Shelf

def selG (ps : List GP) (ns : List Nat) : List GP := (ns.filterMap fun n => ps[n]?).filter fun p => !p.1.none
def gapL (r : Int × Int) : List GP → (Int × Int × Int × Int) × Bool
  | [] => ((r.1, r.2, 1, 1), decide (r.1 < r.2))
  | p :: l => if r.1 * p.1.b < p.1.a * r.2 then ((r.1, r.2, p.1.a, p.1.b), true) else gapL (if r.1 * p.1.d < p.1.c * r.2 then (p.1.c, p.1.d) else r) l
def natsC (ns : List Nat) : List Value := ns.map fun (n : Nat) => Value.int .i64 (n : Int)
theorem natsC_upTo (n : Nat) : intsC (upTo_ n) = natsC (List.range n) := by simp [intsC, upTo_, natsC]
theorem natsC_get (ns : List Nat) (k : Nat) (h : k < ns.length) : (natsC ns)[k]? = some (.int .i64 (ns[k] : Nat)) := by simp [natsC, h]
theorem flatP_cells (l : List GP) (k : Nat) (h : k < l.length) : (l.flatMap encP)[k * 6]? = some (.int .i64 l[k].1.a) ∧ (l.flatMap encP)[k * 6 + 1]? = some (.int .i64 l[k].1.b) ∧ (l.flatMap encP)[k * 6 + 2]? = some (.int .i64 l[k].1.c) ∧ (l.flatMap encP)[k * 6 + 3]? = some (.int .i64 l[k].1.d) ∧ (l.flatMap encP)[k * 6 + 4]? = some (.bool l[k].1.none) ∧ (l.flatMap encP)[k * 6 + 5]? = some (.bool l[k].1.up) := by
  have e : ∀ i, i < 6 → (l.flatMap encP)[k * 6 + i]? = (encP l[k])[i]? := fun i hi => by
    rw [flat_get, show (k * 6 + i) / 6 = k by omega, show (k * 6 + i) % 6 = i by omega, List.getElem?_eq_getElem h]; rfl
  exact ⟨e 0 (by omega), e 1 (by omega), e 2 (by omega), e 3 (by omega), e 4 (by omega), e 5 (by omega)⟩
theorem gpCells {w : World} {B : Nat} {A : Option Addr} {l : List GP} (h : Row w B 6 A l.length (l.flatMap encP)) {k : Nat} (hk : k < l.length) :
    ∃ g o, A = some ⟨g, o, none⟩ ∧ g < B ∧ w.cell? ⟨g, o + k * 6, none⟩ = some (.int .i64 l[k].1.a) ∧ w.cell? ⟨g, o + k * 6 + 1, none⟩ = some (.int .i64 l[k].1.b) ∧ w.cell? ⟨g, o + k * 6 + 2, none⟩ = some (.int .i64 l[k].1.c) ∧
      w.cell? ⟨g, o + k * 6 + 3, none⟩ = some (.int .i64 l[k].1.d) ∧ w.cell? ⟨g, o + k * 6 + 4, none⟩ = some (.bool l[k].1.none) ∧ w.cell? ⟨g, o + k * 6 + 5, none⟩ = some (.bool l[k].1.up) := by
  obtain ⟨g, o, hA, hb, hc⟩ := h.2 (by omega)
  obtain ⟨g0, g1, g2, g3, g4, g5⟩ := flatP_cells l k hk
  exact ⟨g, o, hA, hb, hc _ _ g0, hc _ _ g1, hc _ _ g2, hc _ _ g3, hc _ _ g4, hc _ _ g5⟩
theorem selG_snoc (ps : List GP) (ns : List Nat) (m : Nat) (h : m < ns.length) (hk : ns[m] < ps.length) : selG ps (ns.take (m + 1)) = selG ps (ns.take m) ++ if ps[ns[m]].1.none = true then [] else [ps[ns[m]]] := by
  unfold selG
  rw [List.take_succ_eq_append_getElem h, List.filterMap_append, List.filter_append]
  congr 1
  simp only [List.filterMap_cons, List.getElem?_eq_getElem hk, List.filterMap_nil]
  cases hn : (ps[ns[m]]).1.none <;> simp [hn]
theorem selG_len (ps : List GP) (ns : List Nat) : (selG ps ns).length ≤ ns.length :=
  Nat.le_trans (List.length_filter_le _ _) (List.length_filterMap_le _ _)
theorem cmpI_one {x y : Int} (h : y < x) : cmpI x y = 1 := by unfold cmpI; rw [if_neg (by omega), if_pos h]
theorem cmpI_le {x y : Int} (h : ¬ y < x) : cmpI x y ≤ 0 := by
  unfold cmpI
  split
  · omega
  · first | exact Int.le_refl 0 | (split <;> omega)
def gapC (r : (Int × Int × Int × Int) × Bool) : Value := .tuple #[.agg #[.int .i64 r.1.1, .int .i64 r.1.2.1, .int .i64 r.1.2.2.1, .int .i64 r.1.2.2.2], .bool r.2]
theorem Row.own {w : World} {base e size n : Nat} {v : Value} {xs : List Value} (h : w.ownsRow base e size v n xs) : ∃ A cap, v = .slice A n cap ∧ Row w w.heap.size size A n xs := by
  obtain ⟨A, cap, rfl, _, hc⟩ := own_shape h
  refine ⟨A, cap, rfl, h.1, fun hn => ?_⟩
  obtain ⟨g, rfl, _, hg, hcs, _⟩ := hc hn
  refine ⟨g, 0, rfl, hg, fun j u hu => ?_⟩
  have hj : j < n * size := by rw [← h.1]; exact (List.getElem?_eq_some_iff.1 hu).1
  rw [Nat.zero_add, hcs j hj, hu]

theorem only_set4 {a w : World} {g : Nat} {row : Option Nat} (h : a.grownBy w row) (hr : row = some g) (u0 u1 u2 u3 : Value) : a.grownBy ((((w.setCell ⟨g, 0, none⟩ u0).setCell ⟨g, 1, none⟩ u1).setCell ⟨g, 2, none⟩ u2).setCell ⟨g, 3, none⟩ u3) row := by
  subst hr
  exact only_setCell (only_setCell (only_setCell (only_setCell h (.inl rfl) _) (.inl rfl) _) (.inl rfl) _) (.inl rfl) _
theorem sort_own (base : Nat) (v : Value) (l : List GP) (w : World) (h : w.ownsRow base 137 6 v l.length (l.flatMap encP)) (hl : l.length ≤ 1000000) :
    Calls Tryz.prog 99 #[v, .func (.func 100) #[] #[]] w fun e w' => e = .returned (.tuple #[]) ∧
      ∃ l' : List GP, l'.Perm l ∧ l'.Pairwise (fun x y => x.1.a * y.1.b ≤ y.1.a * x.1.b) ∧ w'.ownsRow base 137 6 v l'.length (l'.flatMap encP) ∧ w.grownBy w' v.ownBlock := by
  have h' := h
  rcases h.2 with ⟨rfl, h0⟩ | ⟨g, cap, cur, rfl, _⟩
  · have h0' := List.eq_nil_of_length_eq_zero h0
    subst h0'
    refine (AnyF.slices_SortFunc_none Tryz.sortPart none 0 _ w).mono ?_
    rintro e w' ⟨he, rfl⟩
    exact ⟨he, [], List.Perm.refl _, List.Pairwise.nil, h', World.grownBy.refl _ _⟩
  · refine (sortP_any base g cap l w h' hl).mono ?_
    rintro e w' ⟨he, l', hp, hs, ho, hg⟩
    exact ⟨he, l', hp, hs, by rw [hp.length_eq]; exact ho, hg⟩

set_option maxRecDepth 100000 in
set_option maxHeartbeats 2000000 in
theorem gap_any (ps : List GP) (ns : List Nat) (A : Option Addr) (c : Nat) (A' : Option Addr) (c' : Nat) (w : World) (_h1 : ps.length ≤ 100000) (h2 : ns.length ≤ 100000) (hns : ∀ n ∈ ns, n < ps.length) (hR : Row w w.heap.size 6 A ps.length (ps.flatMap encP)) (hN : Row w w.heap.size 1 A' ns.length (natsC ns)) (hE : Ends w) :
    Calls Tryz.prog 69 #[.slice A ps.length c, .slice A' ns.length c'] w fun e w' => ∃ l' : List GP, l'.Perm (selG ps ns) ∧ l'.Pairwise (fun x y => x.1.a * y.1.b ≤ y.1.a * x.1.b) ∧ e = .returned (gapC (gapL (0, 1) l')) ∧ Below w.heap.size w w' := by
  obtain ⟨i0, hi, hz0, hz1, hz2⟩ := info_parts infoPart
  have hE1 := Lib.hid hE; clear hE
  have HNS := Lib.hid hns; clear hns
  go_enter Tryz.func69, Tryz.ntmps69
  go_wp2
  go_loopw [6, 14] (fun v i wr => ∃ m : Nat, m ≤ ns.length ∧ i = .int .i64 m ∧ wr.ownsRow (w.heap.size + 1) 137 6 v (selG ps (ns.take m)).length ((selG ps (ns.take m)).flatMap encP) ∧ Blk wr w.heap.size 56 #[.int .i64 0, .int .i64 0, .int .i64 0, .int .i64 0] ∧ Below w.heap.size w wr) (fun _ i _ => ns.length - (intOf i).toNat)
  case atStart => exact ⟨0, Nat.zero_le _, rfl, ⟨rfl, .inl ⟨rfl, rfl⟩⟩, Blk.new w _ _, Below.alloc (Below.refl _ _) (Nat.le_refl _) _⟩
  case round =>
    obtain ⟨m, hm, rfl, hown, b1, hBB⟩ := hrel
    have hsz := Below.size hBB
    have lb := b1.lt
    by_cases hlt : m < ns.length
    · have hk := HNS.out _ (List.getElem_mem hlt)
      obtain ⟨g, o, hA, hg, c0, c1, c2, c3, c4, c5⟩ := gpCells (hR.below hBB (Nat.le_refl _)) hk
      obtain ⟨g', o', hA', hg', hcs⟩ := (hN.below hBB (Nat.le_refl _)).2 (by omega)
      have d0 := hcs m _ (natsC_get ns m hlt)
      subst hA hA'
      clear hcs
      have HS := Lib.hid (selG_snoc ps ns m hlt hk)
      have hml : (selG ps (ns.take m)).length ≤ 100000 := by have := selG_len ps (ns.take m); simp at this; omega
      have k0 : (0 : Int) ≤ (m : Int) := by omega
      have k1 : (m : Int) < (ns.length : Int) := by omega
      have k2 : (0 : Int) ≤ (ns[m] : Int) := by omega
      have k3 : ((ns[m] : Nat) : Int) < (ps.length : Int) := by omega
      have lg : g < wr.heap.size := by omega
      have lg' : g' < wr.heap.size := by omega
      cases hn : (ps[ns[m]]).1.none
      · rw [hn] at c4 HS
        simp only [Bool.false_eq_true, if_false] at HS
        go_wp2_with (at_builtin; refine wpList_append_own _ rfl _ _ 144 rfl (w.heap.size + 1) 137 i0 (.agg #[.int .i64 0, .int .i64 0, .int .i64 0, .int .i64 0, .bool false, .bool false]) 6 40 Tryz.underlying144 hi hz0 hz1 hz2 rfl (by decide) _ _ _ rfl (hown.alloc _) ⟨wr.heap.size, 0, none⟩ 1 1 (encP ps[ns[m]]) rfl rfl ?c1A ?c2A ?c3A ?c4A ?c5A ?_)
        case c1A =>
          intro j u hu
          have hb := Blk.new wr 137 #[.int .i64 (ps[ns[m]]).1.a, .int .i64 (ps[ns[m]]).1.b, .int .i64 (ps[ns[m]]).1.c, .int .i64 (ps[ns[m]]).1.d, .bool false, .bool (ps[ns[m]]).1.up]
          have hu' : (encP (ps[ns[m]]))[j]? = some u := hu
          unfold encP at hu'
          rw [hn] at hu'
          rw [Addr.add_lit, Nat.zero_add, hb.cell j, List.getElem?_toArray]
          exact hu'
        case c2A => exact encP_one _
        case c3A => unfold maxLen; omega
        case c4A => omega
        case c5A => simp; omega
        intro v' w5 own5 hgrow _
        have hownA := hown.alloc (.cells #[.int .i64 (ps[ns[m]]).1.a, .int .i64 (ps[ns[m]]).1.b, .int .i64 (ps[ns[m]]).1.c, .int .i64 (ps[ns[m]]).1.d, .bool false, .bool (ps[ns[m]]).1.up] 137 (0, 0))
        have hB5 : Below w.heap.size w w5 := below_own (hBB.alloc hsz _) (Nat.le_succ _) hownA hgrow
        have b5 := (b1.alloc _).grown hgrow (own_ne hownA (.inl (by omega)))
        go_wp2
        go_roundw
        case rel => exact ⟨m + 1, by omega, by go_num, by rw [HS.out, List.flatMap_append, show (selG ps (ns.take m) ++ [ps[ns[m]]]).length = (selG ps (ns.take m)).length + 1 by simp]; simpa using own5, b5, hB5⟩
        case measure => simp [intOf]; omega
      · rw [hn] at c4 HS
        simp only [if_true, List.append_nil] at HS
        go_wp2
        go_roundw
        case rel => exact ⟨m + 1, by omega, by go_num, by rw [HS.out]; exact hown, b1, hBB⟩
        case measure => simp [intOf]; omega
    · obtain rfl : m = ns.length := by omega
      rw [List.take_length] at hown
      have hll := selG_len ps ns
      obtain ⟨l0, HL0⟩ : ∃ l0, Hid (l0 = selG ps ns) := ⟨_, Lib.hid rfl⟩
      rw [← HL0.out] at hown hll
      go_wp2_with fail
      refine (sort_own _ _ l0 _ hown (by omega)).mono ?_
      rintro e w2 ⟨rfl, l', hp, hs, own2, hg2⟩
      have b2 := b1.grown hg2 (own_ne hown (.inl (by omega)))
      have hB2 : Below w.heap.size w w2 := below_own hBB (Nat.le_succ _) hown hg2
      have hE2 := Lib.hid (hE1.out.below hB2)
      obtain ⟨A2, cap2, rfl, hrow⟩ := Row.own own2
      have hl' : l'.length ≤ 100000 := by rw [hp.length_eq]; omega
      have HP := Lib.hid hp; have HS := Lib.hid hs
      have l2 := b2.lt
      have hs2 := Below.size hB2
      clear hp hs hown hg2 own2 b1 hBB hsz lb hlt hm
      obtain ⟨eb0, eb1, ee0, ee1⟩ := hE2.out
      go_wp2
      go_loopw [37] (fun i wr => ∃ m : Nat, ∃ r : Int × Int, m ≤ l'.length ∧ i = .int .i64 m ∧ NN r.1 ∧ NN r.2 ∧ Hid (gapL (0, 1) l' = gapL r (l'.drop m)) ∧ Blk wr w2.heap.size 54 #[.int .i64 r.1, .int .i64 r.2] ∧ Below w2.heap.size w2 wr) (fun i _ => l'.length - (intOf i).toNat)
      case atStart => exact ⟨0, (0, 1), Nat.zero_le _, rfl, by simp [NN], by simp [NN], rfl, Blk.new w2 _ _, (Below.refl _ _).alloc (Nat.le_refl _) _⟩
      case round =>
        obtain ⟨m, r, hm, rfl, hr1, hr2, HG, bR, hBr⟩ := hrel
        by_cases hlt : m < l'.length
        · obtain ⟨g, o, hA, hg, c0, c1, c2, c3, c4, c5⟩ := gpCells (hrow.below hBr (Nat.le_refl _)) hlt
          subst hA
          have hdr : l'.drop m = l'[m] :: l'.drop (m + 1) := List.drop_eq_getElem_cons hlt
          rw [hdr] at HG
          have hsr := Below.size hBr
          have k0 : (0 : Int) ≤ (m : Int) := by omega
          have k1 : (m : Int) < (l'.length : Int) := by omega
          have lg : g < wr.heap.size := by omega
          have lR := bR.lt
          have b4 := b2.below hBr l2
          have hBB := hB2.trans (hBr.mono hs2)
          obtain ⟨hpa, hpb, hpc, hpd⟩ := (l'[m]).2.1
          have HGT := Lib.hid (show gapL r (l'[m] :: l'.drop (m + 1)) = if r.1 * (l'[m]).1.b < (l'[m]).1.a * r.2 then ((r.1, r.2, (l'[m]).1.a, (l'[m]).1.b), true) else gapL (if r.1 * (l'[m]).1.d < (l'[m]).1.c * r.2 then ((l'[m]).1.c, (l'[m]).1.d) else r) (l'.drop (m + 1)) from rfl)
          obtain ⟨r1, r2⟩ := r
          simp only at hr1 hr2 bR HGT HG
          clear hdr hrow
          generalize (l'[m]).1.a = pa at *
          generalize (l'[m]).1.b = pb at *
          generalize (l'[m]).1.c = pc at *
          generalize (l'[m]).1.d = pd at *
          generalize (l'[m]).1.none = pn at *
          generalize (l'[m]).1.up = pu at *
          obtain ⟨x0, x1, xf⟩ := (show wr.cell? ⟨w2.heap.size, 0, none⟩ = some (.int .i64 r1) ∧ wr.cell? ⟨w2.heap.size, 1, none⟩ = some (.int .i64 r2) ∧ ∀ i, wr.frozen? ⟨w2.heap.size, i, none⟩ = false from ⟨bR.cell 0, bR.cell 1, bR.frozen⟩)
          by_cases hgt : r1 * pb < pa * r2
          · have e1 := cmpI_one hgt
            go_wp2_with fail
            refine (compare_any pa pb r1 r2 hpa hpb hr1 hr2 _).mono ?_
            rw [e1]
            rintro e w1 ⟨rfl, hB1⟩; obtain ⟨hc1, hf1⟩ := bcell hB1; have hz1 := hB1.size; (try simp at hz1)
            have bp := Blk.below (Blk.new wr 137 #[.int .i64 pa, .int .i64 pb, .int .i64 pc, .int .i64 pd, .bool pn, .bool pu]) hB1 (by simp)
            have bR1 := (bR.alloc (.cells #[.int .i64 pa, .int .i64 pb, .int .i64 pc, .int .i64 pd, .bool pn, .bool pu] 137 (0, 0))).below hB1 (by simp; omega)
            have b41 := (b4.alloc (.cells #[.int .i64 pa, .int .i64 pb, .int .i64 pc, .int .i64 pd, .bool pn, .bool pu] 137 (0, 0))).below hB1 (by simp; omega)
            have hBw : Below w.heap.size w w1 := (by repeat first | (with_reducible first | exact Below.refl _ _ | assumption) | ((with_reducible first | refine Below.setCell ?_ ?_ _ | refine Below.alloc ?_ ?_ _); rotate_left; · first | exact Nat.le_refl _ | (simp; done) | (simp; omega) | omega) | (with_reducible first | apply Below.drew | apply below_drewN') | refine Below.trans ?_ (Below.mono (by assumption) (by first | exact Nat.le_refl _ | (simp; done) | (simp; omega) | omega)) | exact Below.refl _ _ | assumption)
            have y0 := bR1.cell 0; have y1 := bR1.cell 1
            have y2 := bp.cell 0; have y3 := bp.cell 1
            have lR1 := bR1.lt; have lp1 := bp.lt; have l41 := b41.lt
            simp at y0 y1 y2 y3
            obtain ⟨d0, d1, d2, d3, hf4⟩ := blk4 b41
            have HN := Lib.hid hgt
            clear x0 x1 xf hc1 hf1
            have e6 := Blk.set4 b41 (.int .i64 r1) (.int .i64 r2) (.int .i64 pa) (.int .i64 pb)
            obtain ⟨z0, z1, z2, z3, _⟩ := blk4 e6
            go_wp2
            refine bodyPost_ret (v := gapC ((r1, r2, pa, pb), true)) ?_ rfl ⟨l', by rw [← HL0.out]; exact HP.out, HS.out, by rw [HG.out, HGT.out, if_pos HN.out], Below.set4 hBw (by omega)⟩
            simp [results, Tryz.results69, go_sem, z0, z1, z2, z3, gapC]
          · obtain ⟨cc, hcc, hc0⟩ : ∃ cc, cmpI (pa * r2) (r1 * pb) = cc ∧ cc ≤ 0 := ⟨_, rfl, cmpI_le hgt⟩
            go_wp2_with fail
            refine (compare_any pa pb r1 r2 hpa hpb hr1 hr2 _).mono ?_
            rw [hcc]
            rintro e w1 ⟨rfl, hB1⟩; obtain ⟨hc1, hf1⟩ := bcell hB1; have hz1 := hB1.size; (try simp at hz1)
            have bp := Blk.below (Blk.new wr 137 #[.int .i64 pa, .int .i64 pb, .int .i64 pc, .int .i64 pd, .bool pn, .bool pu]) hB1 (by simp)
            have bR1 := (bR.alloc (.cells #[.int .i64 pa, .int .i64 pb, .int .i64 pc, .int .i64 pd, .bool pn, .bool pu] 137 (0, 0))).below hB1 (by simp; omega)
            have hBw : Below w2.heap.size w2 w1 := (by repeat first | (with_reducible first | exact Below.refl _ _ | assumption) | ((with_reducible first | refine Below.setCell ?_ ?_ _ | refine Below.alloc ?_ ?_ _); rotate_left; · first | exact Nat.le_refl _ | (simp; done) | (simp; omega) | omega) | (with_reducible first | apply Below.drew | apply below_drewN') | refine Below.trans ?_ (Below.mono (by assumption) (by first | exact Nat.le_refl _ | (simp; done) | (simp; omega) | omega)) | exact Below.refl _ _ | assumption)
            have y0 := bR1.cell 0; have y1 := bR1.cell 1
            have y2 := bp.cell 2; have y3 := bp.cell 3
            have lR1 := bR1.lt; have lp1 := bp.lt
            simp at y0 y1 y2 y3
            clear x0 x1 xf hc1 hf1
            have HN := Lib.hid hgt
            by_cases hgt2 : r1 * pd < pc * r2
            · have e2 := cmpI_one hgt2
              have HN2 := Lib.hid hgt2
              go_wp2_with fail
              refine (compare_any pc pd r1 r2 hpc hpd hr1 hr2 _).mono ?_
              rw [e2]
              rintro e w3 ⟨rfl, hB3⟩
              have bp3 := bp.below hB3 lp1
              have bR3 := bR1.below hB3 lR1
              have hB4 := hBw.trans (hB3.mono (Below.size hBw))
              have u2 := bp3.cell 2; have u3 := bp3.cell 3
              have lR3 := bR3.lt; have lp3 := bp3.lt
              have u0 := bR3.cell 0; have u1 := bR3.cell 1
              simp at u0 u1 u2 u3
              have hfR := bR3.frozen
              clear y0 y1 y2 y3
              go_wp2
              go_roundw
              case rel => exact ⟨m + 1, (pc, pd), by omega, by go_num, hpc, hpd, Lib.hid (by rw [HG.out, HGT.out, if_neg (by have := HN.out; omega), if_pos HN2.out]), (bR3.set_ 0 _).set_ 1 _, (hB4.setCell (Nat.le_refl _) _).setCell (Nat.le_refl _) _⟩
              case measure => simp [intOf]; omega
            · have HN2 := Lib.hid hgt2
              obtain ⟨dd, hdd, hd0⟩ : ∃ dd, cmpI (pc * r2) (r1 * pd) = dd ∧ dd ≤ 0 := ⟨_, rfl, cmpI_le hgt2⟩
              go_wp2_with fail
              refine (compare_any pc pd r1 r2 hpc hpd hr1 hr2 _).mono ?_
              rw [hdd]
              rintro e w3 ⟨rfl, hB3⟩
              have bR3 := bR1.below hB3 lR1
              have hB4 := hBw.trans (hB3.mono (Below.size hBw))
              clear y0 y1 y2 y3
              go_wp2
              go_roundw
              case rel => exact ⟨m + 1, (r1, r2), by omega, by go_num, hr1, hr2, Lib.hid (by rw [HG.out, HGT.out, if_neg (by have := HN.out; omega), if_neg (by have := HN2.out; omega)]), bR3, hB4⟩
              case measure => simp [intOf]; omega
        · obtain rfl : m = l'.length := by omega
          rw [List.drop_length] at HG
          have hsr := Below.size hBr
          have lR := bR.lt
          have b4 := b2.below hBr l2
          have hBB := hB2.trans (hBr.mono hs2)
          obtain ⟨r1, r2⟩ := r
          simp only at hr1 hr2 bR
          obtain ⟨fb0, fb1, fe0, fe1⟩ := hE2.out.below hBr
          obtain ⟨x0, x1, xf⟩ := (show wr.cell? ⟨w2.heap.size, 0, none⟩ = some (.int .i64 r1) ∧ wr.cell? ⟨w2.heap.size, 1, none⟩ = some (.int .i64 r2) ∧ ∀ i, wr.frozen? ⟨w2.heap.size, i, none⟩ = false from ⟨bR.cell 0, bR.cell 1, bR.frozen⟩)
          have HF : Hid (gapL (0, 1) l' = ((r1, r2, 1, 1), decide (r1 < r2))) := Lib.hid (by rw [HG.out]; rfl)
          have hcc := cmpI_neg (r1 * 1) (1 * r2)
          simp only [Int.mul_one, Int.one_mul] at hcc
          have l1 : 1 < wr.heap.size := World.block_lt_of_cell? _ _ fe0
          have n1 : ¬ w2.heap.size = w.heap.size := by omega
          have n2 : ¬ (1 : Nat) = w.heap.size := by have := World.block_lt_of_cell? _ _ hE1.out.e0; simp at this; omega
          have l4 := b4.lt
          obtain ⟨d0, d1, d2, d3, hf4⟩ := blk4 b4
          have HBB := Lib.hid hBB
          have hws := Below.size hBB
          clear hE2 hBr hB2 b2 l2 HG hBB hs2 hsr hN hR hll hrow _h1 h2 hm hl'
          go_wp2_with fail
          generalize hW : wr = W at *
          generalize hn0 : w.heap.size = n0 at *
          generalize hn9 : w2.heap.size = n9 at *
          obtain ⟨rowN0, hrow0⟩ : ∃ r : Option Nat, r = some n0 := ⟨_, rfl⟩
          have m1 : some n9 ≠ rowN0 := by rw [hrow0]; simpa using n1
          have m2 : some 1 ≠ rowN0 := by rw [hrow0]; simpa using n2
          refine wp_region_w (fun w' => World.grownBy _ w' rowN0) (by kernel_rfl) (only_drew (World.grownBy.refl _ _)) ?_
          refine wpW_det (t' := ?ct0R6) 0 (by rfl) (by kernel_rfl) (NQ_free _) (by kernel_rfl) ?cw0R6 ?ch0R6 ?ca0R6 (Eq.refl _) ?cH0R6
          case cw0R6 => (go_simp; done)
          case ch0R6 =>
            intro ds w' hS K hK
            have hc := (ocell hS).1
            have hf := (ocell hS).2
            have hz := hS.size
            try simp at hz
            go_simp
            try go_bits
            first
              | exact hK _ hS (Gr.refl _)
              | (go_at_call 96; (refine (compare_any r1 r2 1 1 hr1 hr2 (by omega) (by omega) _).mono ?_); rintro e w1 ⟨rfl, hB1⟩; obtain ⟨hc1, hf1⟩ := bcell hB1; have hz1 := hB1.size; (try simp at hz1); exact hK _ (only_trans hS (only_of_below hB1 _)) hB1)
              | fail
          case ca0R6 => (first | (simp [Act.put]; done) | (simp [Act.put, *]; done))
          try dsimp only
          refine wpW_det (t' := ?ct1R6) 1 (by rfl) (by kernel_rfl) (NQ_free _) (by kernel_rfl) ?cw1R6 ?ch1R6 ?ca1R6 (Eq.refl _) ?cH1R6
          case cw1R6 => (go_simp; done)
          case ch1R6 =>
            intro ds w' hS K hK
            have hc := (ocell hS).1
            have hf := (ocell hS).2
            have hz := hS.size
            try simp at hz
            go_simp
            try go_bits
            first
              | exact hK _ hS (Gr.refl _)
              | (go_at_call 96; (refine (compare_any r1 r2 1 1 hr1 hr2 (by omega) (by omega) _).mono ?_); rintro e w1 ⟨rfl, hB1⟩; obtain ⟨hc1, hf1⟩ := bcell hB1; have hz1 := hB1.size; (try simp at hz1); exact hK _ (only_trans hS (only_of_below hB1 _)) hB1)
              | fail
          case ca1R6 => (first | (simp [Act.put]; done) | (simp [Act.put, *]; done))
          try dsimp only
          refine wpW_det (t' := ?ct2R6) 2 (by rfl) (by kernel_rfl) (NQ_free _) (by kernel_rfl) ?cw2R6 ?ch2R6 ?ca2R6 (Eq.refl _) ?cH2R6
          case cw2R6 => (go_simp; done)
          case ch2R6 =>
            intro ds w' hS K hK
            have hc := (ocell hS).1
            have hf := (ocell hS).2
            have hz := hS.size
            try simp at hz
            go_simp
            try go_bits
            first
              | exact hK _ hS (Gr.refl _)
              | (go_at_call 96; (refine (compare_any r1 r2 1 1 hr1 hr2 (by omega) (by omega) _).mono ?_); rintro e w1 ⟨rfl, hB1⟩; obtain ⟨hc1, hf1⟩ := bcell hB1; have hz1 := hB1.size; (try simp at hz1); exact hK _ (only_trans hS (only_of_below hB1 _)) hB1)
              | fail
          case ca2R6 => (first | (simp [Act.put]; done) | (simp [Act.put, *]; done))
          try dsimp only
          refine wpW_det (t' := ?ct3R6) 3 (by rfl) (by kernel_rfl) (NQ_free _) (by kernel_rfl) ?cw3R6 ?ch3R6 ?ca3R6 (Eq.refl _) ?cH3R6
          case cw3R6 => (go_simp; done)
          case ch3R6 =>
            intro ds w' hS K hK
            have hc := (ocell hS).1
            have hf := (ocell hS).2
            have hz := hS.size
            try simp at hz
            go_simp
            try go_bits
            first
              | exact hK _ hS (Gr.refl _)
              | (go_at_call 96; (refine (compare_any r1 r2 1 1 hr1 hr2 (by omega) (by omega) _).mono ?_); rintro e w1 ⟨rfl, hB1⟩; obtain ⟨hc1, hf1⟩ := bcell hB1; have hz1 := hB1.size; (try simp at hz1); exact hK _ (only_trans hS (only_of_below hB1 _)) hB1)
              | fail
          case ca3R6 => (first | (simp [Act.put]; done) | (simp [Act.put, *]; done))
          try dsimp only
          refine wpW_det (t' := ?ct4R6) 4 (by rfl) (by kernel_rfl) (NQ_free _) (by kernel_rfl) ?cw4R6 ?ch4R6 ?ca4R6 (Eq.refl _) ?cH4R6
          case cw4R6 => (go_simp; done)
          case ch4R6 =>
            intro ds w' hS K hK
            have hc := (ocell hS).1
            have hf := (ocell hS).2
            have hz := hS.size
            try simp at hz
            go_simp
            try go_bits
            first
              | exact hK _ hS (Gr.refl _)
              | (go_at_call 96; (refine (compare_any r1 r2 1 1 hr1 hr2 (by omega) (by omega) _).mono ?_); rintro e w1 ⟨rfl, hB1⟩; obtain ⟨hc1, hf1⟩ := bcell hB1; have hz1 := hB1.size; (try simp at hz1); exact hK _ (only_trans hS (only_of_below hB1 _)) hB1)
              | fail
          case ca4R6 => (first | (simp [Act.put]; done) | (simp [Act.put, *]; done))
          try dsimp only
          refine wpW_det (t' := ?ct5R6) 5 (by rfl) (by kernel_rfl) (NQ_free _) (by kernel_rfl) ?cw5R6 ?ch5R6 ?ca5R6 (Eq.refl _) ?cH5R6
          case cw5R6 => (go_simp; done)
          case ch5R6 =>
            intro ds w' hS K hK
            have hc := (ocell hS).1
            have hf := (ocell hS).2
            have hz := hS.size
            try simp at hz
            go_simp
            try go_bits
            first
              | exact hK _ hS (Gr.refl _)
              | (go_at_call 96; (refine (compare_any r1 r2 1 1 hr1 hr2 (by omega) (by omega) _).mono ?_); rintro e w1 ⟨rfl, hB1⟩; obtain ⟨hc1, hf1⟩ := bcell hB1; have hz1 := hB1.size; (try simp at hz1); exact hK _ (only_trans hS (only_of_below hB1 _)) hB1)
              | fail
          case ca5R6 => (first | (simp [Act.put]; done) | (simp [Act.put, *]; done))
          try dsimp only
          refine wpW_det (t' := ?ct6R6) 6 (by rfl) (by kernel_rfl) (NQ_free _) (by kernel_rfl) ?cw6R6 ?ch6R6 ?ca6R6 (Eq.refl _) ?cH6R6
          case cw6R6 => (go_simp; done)
          case ch6R6 =>
            intro ds w' hS K hK
            have hc := (ocell hS).1
            have hf := (ocell hS).2
            have hz := hS.size
            try simp at hz
            go_simp
            try go_bits
            first
              | exact hK _ hS (Gr.refl _)
              | (go_at_call 96; (refine (compare_any r1 r2 1 1 hr1 hr2 (by omega) (by omega) _).mono ?_); rintro e w1 ⟨rfl, hB1⟩; obtain ⟨hc1, hf1⟩ := bcell hB1; have hz1 := hB1.size; (try simp at hz1); exact hK _ (only_trans hS (only_of_below hB1 _)) hB1)
              | fail
          case ca6R6 => (first | (simp [Act.put]; done) | (simp [Act.put, *]; done))
          try dsimp only
          refine wpW_branch [7] (by kernel_rfl) (by simp) ?_
          intro w1 hg1 hS1
          refine each_cons ?_ each_nil
          have b41 := Blk.gr b4.drew hg1
          obtain ⟨v0, v1, v2, v3, vf⟩ := blk4 b41
          refine wpOp_go (by rfl) (Eq.refl _) (by go_simp; done) ?_
          intro K hK
          go_simp
          try simp only [Act.put]
          (with_reducible refine hK _ _ (only_set4 hS1 hrow0 _ _ _ _) ?_)
          clear hK K
          have b42 := Blk.set4 b41 (.int .i64 r1) (.int .i64 r2) (.int .i64 1) (.int .i64 1)
          have hBw := Below.set4 (u0 := .int .i64 r1) (u1 := .int .i64 r2) (u2 := .int .i64 1) (u3 := .int .i64 1) (Below.trans (Below.drew HBB.out) (Below.mono hg1 hws)) (Nat.le_refl n0)
          refine wpW_branch [8] (by kernel_rfl) (by simp) ?_
          intro w2' hg2 hS2
          refine each_cons ?_ each_nil
          have b43 := Blk.gr b42 hg2
          have hBx := Below.trans hBw (Below.mono hg2 (by have := Below.size hBw; omega))
          refine wpOp_go (by rfl) (Eq.refl _) (by go_simp; done) ?_
          intro K hK
          go_simp
          try simp only [Act.put]
          refine hK _ _ hS2 ?_
          clear hK K
          refine wpW_end (by kernel_rfl) ?_
          intro w3' hg3 hS3
          unfold NQ
          dsimp only
          have b44 := Blk.gr b43 hg3
          have hBy := Below.trans hBx (Below.mono hg3 (by have := Below.size hBx; omega))
          obtain ⟨z0, z1, z2, z3, _⟩ := blk4 b44
          go_wp2
          refine bodyPost_ret (v := gapC ((r1, r2, 1, 1), decide (r1 < r2))) ?_ rfl ⟨l', by rw [← HL0.out]; exact HP.out, HS.out, by rw [HF.out], by rw [hn0]; exact hBy⟩
          simp [results, Tryz.results69, go_sem, z0, z1, z2, z3, gapC]
end Go.Proofs.YtaekcfancfoccaaGreatDoor
