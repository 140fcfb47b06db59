/- Contracts: slices.Sorted(slices.Values(..)) of ints: the iterator over a slice, what is collected of it, and sorted. Grouped: the rows of numbers are sorted by their first numbers. -/
import Derived.RangeFuncBox
import Derived.RangeFuncLeaves
import Derived.Shelf.Abstract
import Derived.WalkKit
import Derived.OwnWalkIn
import Derived.TacticsInMore
import Derived.LoopNIn
import Derived.LoopIn
import Derived.Maps.AppendAt
import Derived.Sort.OwnSortedInts
import Derived.Test.YtjimdnmdnjhnjaaGreatDoorZgFcJ
import Derived.Test.YtjimdnmdnjhnjaaGreatDoorZgFaN
import Derived.Test.YtjimdnmdnjhnjaaGreatDoorZgShB
import Derived.Test.YtjimdnmdnjhnjaaGreatDoorZgFaO
namespace Go.Proofs.YtjimdnmdnjhnjaaGreatDoor
open Go.RowKit Go.Shelf

attribute [local go_sem] Oper.semAt_some

/-- What has come when k rounds are over. -/
def came {α : Type} (f : Nat → α) (k : Nat) : List α := (List.range k).map f
theorem came_succ {α : Type} (f : Nat → α) (k : Nat) : came f (k + 1) = came f k ++ [f k] := by simp [came, List.range_succ]
theorem came_length {α : Type} (f : Nat → α) (k : Nat) : (came f k).length = k := by simp [came]
theorem came_all (zs : List Int) : came (fun j => zs[j]?.getD 0) zs.length = zs := by
  apply List.ext_getElem
  · simp [came]
  · intro i h1 h2
    simp [came, h2]
theorem came_take (zs : List Int) {k : Nat} (hk : k ≤ zs.length) : came (fun j => zs[j]?.getD 0) k = zs.take k := by
  apply List.ext_getElem
  · simp [came, hk]
  · intro i h1 h2
    have : i < zs.length := by simp [came] at h1; omega
    simp [came, this]

set_option maxRecDepth 100000 in
set_option maxHeartbeats 2000000 in
theorem values1_in (F : Fence) (n : Nat) (h7 : F.fn 81) (hro : F.round = none) (hn : 1 ≤ n) (l Bs n₀ b off len cap : Nat) (zs : List Int) (hreach : len * 8 ≤ 140737488351232) (hb : b < n₀) (J Jx : List Int → World → Prop)
    (hY : ∀ pre x W, J pre W → pre.length < len → YieldAt F (n - 1) Tryz.prog l #[.int .i64 x] W fun e W' =>
      (e = .returned (.bool true) ∧ J (pre ++ [x]) W' ∧ Below n₀ W W') ∨ (e = .returned (.bool false) ∧ Jx (pre ++ [x]) W'))
    (W : World) (hBs : W.cell? ⟨Bs, 0, none⟩ = some (.slice (some ⟨b, off, none⟩) len cap)) (hc : ∀ j, j < len → W.cell? ⟨b, off + j, none⟩ = some (.int .i64 (zs[j]?.getD 0))) (h0 : J [] W) :
    CallsIn F n Tryz.prog 81 #[.func (.yield l) #[] #[], .pointer (some ⟨Bs, 0, none⟩)] W fun e W' => (∃ v, e = .returned v) ∧
      ((∃ ys, ys = came (fun j => zs[j]?.getD 0) len ∧ J ys W') ∨ (∃ pre, (∃ k, k ≤ len ∧ pre = came (fun j => zs[j]?.getD 0) k) ∧ Jx pre W')) := by
  refine callsIn_of_wp Tryz.func81 rfl h7 ?_ hro
  simp only [Tryz.ntmps81, List.size_toArray, List.length_cons, List.length_nil, Nat.reduceAdd, Nat.reduceSub, Array.replicate_succ, Array.replicate_zero, List.push_toArray, List.append_toArray, List.nil_append, List.cons_append]
  gi_wp2
  gi_loopw [7] (fun i wr => ∃ k : Nat, k ≤ len ∧ i = .int .i64 k ∧ J (came (fun j => zs[j]?.getD 0) k) wr ∧ Below n₀ W wr)
    (fun i _ => len - (intOf i).toNat)
  case atStart => exact ⟨0, Nat.zero_le _, rfl, h0, Below.refl _ _⟩
  case round =>
    obtain ⟨k, hk, rfl, hJs, hnx⟩ := hrel
    have hcx : k < len → wr.cell? ⟨b, off + k, none⟩ = some (.int .i64 (zs[k]?.getD 0)) := fun h => (hnx.cell (p := ⟨b, off + k, none⟩) hb).trans (hc k h)
    by_cases hlt : k < len
    · obtain ⟨fn, tmps, assign, body, hy, hR⟩ := hY _ (zs[k]?.getD 0) wr hJs (by rw [came_length]; exact hlt)
      have hcx' := hcx hlt
      gi_wp2
      refine hR.mono ?_
      rintro e W3 (⟨rfl, hJ3, hk3⟩ | ⟨rfl, hJx3⟩)
      · gi_wp2
        go_roundw
        case rel => exact ⟨k + 1, by omega, by simp, by rw [came_succ]; exact hJ3, hnx.trans hk3⟩
        case measure => simp [intOf]; omega
      · gi_wp2
        refine bodyPost_ret (results_none rfl _ _ _) rfl ?_
        exact ⟨⟨_, rfl⟩, .inr ⟨_, ⟨k + 1, by omega, (came_succ _ _).symm⟩, hJx3⟩⟩
    · obtain rfl : k = len := by omega
      gi_wp2
      go_end0
      exact ⟨⟨_, rfl⟩, .inl ⟨_, rfl, hJs⟩⟩

/-- The slice value sv holds the ints zs, in a block below n₀; or there are none. -/
def Ints (n₀ : Nat) (W : World) (sv : Value) (zs : List Int) : Prop :=
  (∃ A cap, sv = .slice A 0 cap ∧ zs = []) ∨ ∃ b off cap, sv = .slice (some ⟨b, off, none⟩) zs.length cap ∧ b < n₀ ∧ ∀ j, j < zs.length → W.cell? ⟨b, off + j, none⟩ = some (.int .i64 (zs[j]?.getD 0))
theorem Ints.below {n₀ : Nat} {A B : World} (h : Below n₀ A B) {sv : Value} {zs : List Int} : Ints n₀ A sv zs → Ints n₀ B sv zs
  | .inl e => .inl e
  | .inr ⟨b, off, cap, e, hb, hc⟩ => .inr ⟨b, off, cap, e, hb, fun j hj => (h.cell (p := ⟨b, off + j, none⟩) hb).trans (hc j hj)⟩

set_option maxRecDepth 100000 in
set_option maxHeartbeats 1000000 in
theorem values1_nil_in (F : Fence) (n : Nat) (h7 : F.fn 81) (hro : F.round = none) (l Bs : Nat) (A : Option Addr) (cap : Nat) (J : List Int → World → Prop) (W : World) (hBs : W.cell? ⟨Bs, 0, none⟩ = some (.slice A 0 cap)) (h0 : J [] W) :
    CallsIn F n Tryz.prog 81 #[.func (.yield l) #[] #[], .pointer (some ⟨Bs, 0, none⟩)] W fun e W' => (∃ v, e = .returned v) ∧ J [] W' := by
  refine callsIn_of_wp Tryz.func81 rfl h7 ?_ hro
  simp only [Tryz.ntmps81, List.size_toArray, List.length_cons, List.length_nil, Nat.reduceAdd, Nat.reduceSub, Array.replicate_succ, Array.replicate_zero, List.push_toArray, List.append_toArray, List.nil_append, List.cons_append]
  gi_wp2
  gi_loopw [7] (fun i wr => i = .int .i64 0 ∧ J [] wr) (fun _ _ => 0)
  case atStart => exact ⟨rfl, h0⟩
  case round =>
    obtain ⟨rfl, hJs⟩ := hrel
    gi_wp2
    go_end0
    exact ⟨⟨_, rfl⟩, hJs⟩

theorem values_stops (F : Fence) (n : Nat) (h7 : F.fn 81) (hro : F.round = none) (hn : 1 ≤ n) (Bs n₀ : Nat) (sv : Value) (zs : List Int) (hreach : zs.length * 8 ≤ 140737488351232) (w : World) (hBs : Bs < w.heap.size) (hn₀ : n₀ ≤ w.heap.size)
    (hc : w.cell? ⟨Bs, 0, none⟩ = some sv) (hI : Ints n₀ w sv zs) :
    SeqStopsK F n Tryz.prog 81 #[.pointer (some ⟨Bs, 0, none⟩)] (fun x : Int => #[Value.int .i64 x]) (Below n₀) (fun ys => ys = zs) (fun pre => pre <+: zs) zs.length w := fun l J Jx W hW _ _ hY h0 => by
  have hc' := (hW.cell (p := ⟨Bs, 0, none⟩) hBs).trans hc
  rcases hI.below (hW.mono hn₀) with ⟨A, cap, rfl, rfl⟩ | ⟨b, off, cap, rfl, hb, hcs⟩
  · exact (values1_nil_in F n h7 hro l Bs A cap J W hc' h0).mono fun e W' ⟨he, hj⟩ => ⟨he, .inl ⟨_, rfl, hj⟩⟩
  · refine (values1_in F n h7 hro hn l Bs n₀ b off zs.length cap zs hreach hb J Jx hY W hc' hcs h0).mono ?_
    rintro e W' ⟨he, ⟨ys, rfl, hj⟩ | ⟨pre, ⟨k, hk, rfl⟩, hj⟩⟩
    · exact ⟨he, .inl ⟨_, came_all zs, hj⟩⟩
    · exact ⟨he, .inr ⟨_, by rw [came_take zs hk]; exact List.take_prefix _ _, hj⟩⟩

set_option maxRecDepth 100000 in
set_option maxHeartbeats 2000000 in
theorem appendSeq_in (F : Fence) (n : Nat) (h3 : F.fn 112) (h5 : F.fn 81) (hro : F.round = none) (hn : 3 ≤ n) (Bs : Nat) (sv : Value) (zs : List Int) (hlen : zs.length ≤ maxLen) (hbytes : zs.length * 8 ≤ 140737488351232) (w : World)
    (hBs : Bs < w.heap.size) (hc : w.cell? ⟨Bs, 0, none⟩ = some sv) (hI : Ints w.heap.size w sv zs) :
    CallsIn F n Tryz.prog 112 #[.slice none 0 0, .func (.func 81) #[] #[.pointer (some ⟨Bs, 0, none⟩)]] w fun e W' => ∃ v, e = .returned v ∧ W'.ownsRow w.heap.size 3 1 v zs.length (zs.map (Value.int .i64)) ∧ (v = .slice none 0 0 ↔ zs = []) ∧ Below w.heap.size w W' := by
  have h1 : 1 ≤ n := by omega
  obtain ⟨i0, hi, hz0, hz1, hz2⟩ := info_parts infoInt
  refine callsIn_of_wp_marks Tryz.func112 rfl h3 ?_ hro
  simp only [Tryz.ntmps112, List.size_toArray, List.length_cons, List.length_nil, Nat.reduceAdd, Nat.reduceSub, Array.replicate_succ, Array.replicate_zero, List.push_toArray, List.append_toArray, List.nil_append, List.cons_append]
  gi_wp2
  have bO := Boxed.new w 57 (.slice none 0 0)
  have hB0 : Below w.heap.size w (w.alloc (.cells #[.slice none 0 0] 57)) := (Below.refl _ w).alloc (Nat.le_refl _) _
  refine wpIn_rangeFunc_ownG hro h1 (gf := 81) (lb := #[.pointer (some ⟨Bs, 0, none⟩)]) rfl h5 (enters_of Tryz.func81 (by kernel_rfl) rfl)
    (values_stops F (n - 1) h5 hro (by omega) Bs w.heap.size sv zs hbytes _ (by simp; omega) (by simp) ((hB0.cell (p := ⟨Bs, 0, none⟩) hBs).trans hc) (hI.below hB0)) belowK_t (belowK_b (by simp)) (Below.refl _ _) (fun _ => rfl)
    (fun pre W => (∃ v, Boxed W w.heap.size 57 v ∧ W.ownsRow w.heap.size 3 1 v pre.length (pre.map (Value.int .i64)) ∧ (v = .slice none 0 0 ↔ pre = [])) ∧ Below w.heap.size w W)
    (fun _ _ _ => False)
    (OwnFrom.and (Own.from (holdsRow_own w.heap.size w.heap.size 57 3 1 (fun pre : List Int => pre.length) (fun pre => pre.map (Value.int .i64)) (fun pre v => v = .slice none 0 0 ↔ pre = [])) _) (ownFrom_below (Nat.le_refl _) (by simp)))
    (fun _ _ _ _ _ hs _ _ => hs)
    ⟨⟨_, bO, World.ownsRow_nil _ _ _ _, by simp⟩, hB0⟩
    (fun x => { tmps := #[.slice none 0 0, .func (.func 81) #[] #[.pointer (some ⟨Bs, 0, none⟩)], .pointer (some ⟨w.heap.size, 0, none⟩), undef, .slice none 0 0, .int .i64 x, .func (.func 81) #[] #[.pointer (some ⟨Bs, 0, none⟩)], .int .i64 x, undef, undef, undef, undef, undef], defers := [] }) ?assign ?body ?done ?stop
  case assign =>
    intro l x W K hK
    gi_wp2
    exact hK
  case body =>
    rintro l pre x W ⟨⟨v, hv, hrow, hnil⟩, hB⟩ hlt
    have hc := hv.cell
    gi_wp2_with (gi_at_builtin; refine wpListIn_append_own _ rfl _ _ 57 rfl w.heap.size 3 i0 (.int .i64 0) 1 8 Tryz.underlying57 hi hz0 hz1 hz2 rfl (by decide) _ _ _ rfl (hrow.alloc _) ⟨W.heap.size, 0, none⟩ 1 1 [.int .i64 x] rfl rfl (cell_one_new _ _ _) (by simp [Value.oneCell']) (by omega) (by omega) (by have := hB.size; simp; omega) ?_; intro v' w1 hown' hgrow _; obtain ⟨g', cap', rfl⟩ := ownsRow_succ hown'; obtain ⟨hv1, hv2, hr2, hk2, hb2⟩ := hv.appended (by decide) hrow hB.size (Nat.le_refl _) hown' hgrow; have hc1 := hv1.cell; have hf1 := hv1.frozen)
    exact ⟨hk2.from _, hb2, ⟨_, hv2, by simpa using hr2, by simp⟩, hB.trans hb2⟩
  case done =>
    rintro D ys W hD rfl ⟨⟨v, hv, hrow, hnil⟩, hB⟩ hK
    have hc := hv.cell
    gi_wp2
    refine ⟨by simp, .inl ⟨_, _, rfl, run_takeDeferred hK, ?_⟩⟩
    exact ⟨_, results_tmp rfl _ _ _, v, rfl, ownsRow_putObj hrow _ hK rfl, hnil, hB.trans (belowK_b (w := w) (Nat.le_refl _) W D _ _ (by simp at hD; omega) hK rfl rfl)⟩
  case stop =>
    rintro D c pre W _ _ h _
    exact h.elim
set_option maxHeartbeats 400000 in
theorem values_any (A : Option Addr) (n c : Nat) (w : World) :
    Calls Tryz.prog 50 #[.slice A n c] w fun e w' => e = .returned (.func (.func 81) #[] #[.pointer (some ⟨w.heap.size, 0, none⟩)]) ∧ w' = w.alloc (.cells #[.slice A n c] 57) := by
  go_enter Tryz.func50, Tryz.ntmps50
  go_wp2
  go_ret
  exact ⟨rfl, rfl⟩

theorem appendSeq_any (Bs : Nat) (sv : Value) (zs : List Int) (hlen : zs.length ≤ 1000000000) (w : World) (hBs : Bs < w.heap.size) (hc : w.cell? ⟨Bs, 0, none⟩ = some sv) (hI : Ints w.heap.size w sv zs) :
    Calls Tryz.prog 112 #[.slice none 0 0, .func (.func 81) #[] #[.pointer (some ⟨Bs, 0, none⟩)]] w fun e W' => ∃ v, e = .returned v ∧ W'.ownsRow w.heap.size 3 1 v zs.length (zs.map (Value.int .i64)) ∧ (v = .slice none 0 0 ↔ zs = []) ∧ Below w.heap.size w W' :=
  callsIn_wide.1 (appendSeq_in Fence.wide 5 trivial trivial rfl (by omega) Bs sv zs (by unfold maxLen; omega) (by omega) w hBs hc hI)

theorem collect_any (Bs : Nat) (sv : Value) (zs : List Int) (hlen : zs.length ≤ 1000000000) (w : World) (hBs : Bs < w.heap.size) (hc : w.cell? ⟨Bs, 0, none⟩ = some sv) (hI : Ints w.heap.size w sv zs) :
    Calls Tryz.prog 79 #[.func (.func 81) #[] #[.pointer (some ⟨Bs, 0, none⟩)]] w fun e W' => ∃ v, e = .returned v ∧ W'.ownsRow w.heap.size 3 1 v zs.length (zs.map (Value.int .i64)) ∧ (v = .slice none 0 0 ↔ zs = []) ∧ Below w.heap.size w W' := by
  have h := Lib.hid (appendSeq_any Bs sv zs hlen w hBs hc hI)
  go_enter Tryz.func79, Tryz.ntmps79
  go_wp2_with fail
  refine h.out.mono ?_
  rintro e w1 ⟨v, rfl, h1, h2, h3⟩
  have H2 := Lib.hid h2; clear h2
  go_wp2
  go_ret
  exact ⟨v, rfl, h1, H2.out, h3⟩

/-- The numbers of a list, ascending. -/
def sortV (zs : List Int) : List Int := zs.mergeSort fun x y => decide (x ≤ y)
theorem sortV_length (zs : List Int) : (sortV zs).length = zs.length := List.length_mergeSort ..

set_option maxHeartbeats 400000 in
theorem sorted_any (Bs : Nat) (sv : Value) (zs : List Int) (hlen : zs.length ≤ 1000000000) (w : World) (hBs : Bs < w.heap.size) (hc : w.cell? ⟨Bs, 0, none⟩ = some sv) (hI : Ints w.heap.size w sv zs) :
    Calls Tryz.prog 49 #[.func (.func 81) #[] #[.pointer (some ⟨Bs, 0, none⟩)]] w fun e W' => ∃ v, e = .returned v ∧ W'.ownsRow w.heap.size 3 1 v zs.length ((sortV zs).map (Value.int .i64)) ∧ Below w.heap.size w W' := by
  have h := Lib.hid (collect_any Bs sv zs hlen w hBs hc hI)
  go_enter Tryz.func49, Tryz.ntmps49
  go_wp2_with fail
  refine h.out.mono ?_
  rintro e w1 ⟨v, rfl, h1, h2, h3⟩
  have H2 := Lib.hid h2; clear h2
  rcases h1.2 with ⟨rfl, h0⟩ | ⟨g, cap, cur, rfl, hbase, hb, hn1, hn2, hn3, hn4⟩
  · have hz : zs = [] := H2.out.1 rfl
    subst hz
    go_wp2_with fail
    refine (Tryz.slices_Sort_int_none none 0 _).mono ?_
    rintro e w2 ⟨rfl, rfl⟩
    go_wp2
    go_ret
    exact ⟨_, rfl, ⟨by simp [sortV], .inl ⟨rfl, rfl⟩⟩, h3⟩
  · have hH := holds_of_blockI hb (by simpa using hn4)
    have hgl : g < w1.heap.size := (Array.getElem?_eq_some_iff.1 hb).1
    have hs := Lib.hid (Tryz.slices_Sort_int g 0 cap zs w1 hH hgl (by omega))
    go_wp2_with fail
    refine hs.out.mono ?_
    rintro e w2 ⟨rfl, nn, os, hw⟩
    have o2 := ownsRow_sortedI (n := nn) (os := os) (ts := sortV zs) (by rw [sortV_length]) hbase hb hn1 hn2 hn3
    have g2 := grownBy_sortedI (w := w1) (g := g) (n := nn) (os := os) (sortV zs).toArray
    unfold sortV at o2 g2
    rw [← hw] at o2 g2
    clear hw
    go_wp2
    go_ret
    exact ⟨_, rfl, o2, h3.grown g2 (Below.size h3) (fun k e => by cases e; exact hbase)⟩

end Go.Proofs.YtjimdnmdnjhnjaaGreatDoor

namespace Go.Proofs.YtjimdnmdnjhnjaaGreatDoor
open Go.RowKit Go.Sort Go.Shelf

/-- A row of numbers. -/
structure Rw where
  b : Nat
  cap : Nat
  ns : List Int
def rwV (q : Rw) : Value := .slice (some ⟨q.b, 0, none⟩) q.ns.length q.cap
def hd (q : Rw) : Int := q.ns.headD 0
def RwIn (W : World) (g : Nat) (q : Rw) : Prop := q.b < W.heap.size ∧ q.b ≠ g ∧ 0 < q.ns.length ∧ W.cell? ⟨q.b, 0, none⟩ = some (.int .i64 (hd q))

set_option maxHeartbeats 1000000 in
theorem cmpHead_any (b1 b2 n1 n2 c1 c2 : Nat) (x y : Int) (W : World) (h1 : 0 < n1) (h2 : 0 < n2) (k1 : W.cell? ⟨b1, 0, none⟩ = some (.int .i64 x)) (k2 : W.cell? ⟨b2, 0, none⟩ = some (.int .i64 y)) :
    Calls Tryz.prog 52 #[.slice (some ⟨b1, 0, none⟩) n1 c1, .slice (some ⟨b2, 0, none⟩) n2 c2] W fun e w' => e = .returned (.int .i64 (Lib.compareInt x y)) ∧ ∃ q os, w' = Sort.grow (W.drewN q) os := by
  have i1 : (0 : Int) < (n1 : Int) := by omega
  have i2 : (0 : Int) < (n2 : Int) := by omega
  go_enter Tryz.func52, Tryz.ntmps52
  go_wp2_with fail
  refine wp_region_text 7 (fun w' => ∃ q, w' = W.drewN q) (by kernel_rfl) (by kernel_rfl) ⟨1, rfl⟩ ?_
  simp only [List.take, List.drop]
  repeat (first
    | (apply StepsD.run
       · go_simp
         done
       · rintro w' ⟨q, rfl⟩ K hK
         go_simp
         first
           | exact hK _ ⟨q, rfl⟩
           | ((go_at_call 53); refine (Tryz.cmp_Compare_int x y _).mono ?_; rintro e w1 ⟨rfl, rfl⟩; exact hK _ ⟨q, rfl⟩)
       · simp [Act.put]
         done))
  refine StepsD.done ?_
  rintro w' ⟨q, rfl⟩
  go_wp2
  go_ret
  exact ⟨rfl, q, #[], by rw [Sort.grow_empty]⟩

theorem heap_sortedE {α : Type} [Inhabited α] (enc : α → Value) {w : World} {g n : Nat} {os : Array Obj} {cur : Array Value} {e : TypeId} {fr : Nat × Nat} (d : Array α) (hb : w.heap[g]? = some (.cells cur e fr)) :
    (grow (putRow enc (Sort.ahead w n) g 0 d) os).heap[g]? = some (.cells (putCells enc 0 d cur) e fr) := by
  have hg : g < w.heap.size := (Array.getElem?_eq_some_iff.1 hb).1
  rw [heap_grow_old _ _ (by simpa using hg)]
  simp [putRow, mapBlock, Sort.ahead, Array.getElem?_modify, hb, onCells]
theorem grownBy_sortedE {α : Type} [Inhabited α] (enc : α → Value) {w : World} {g n : Nat} {os : Array Obj} (d : Array α) : w.grownBy (grow (putRow enc (Sort.ahead w n) g 0 d) os) (some g) := by
  refine ⟨rfl, rfl, rfl, by simp, fun k hk hne => ?_⟩
  rw [heap_grow_old _ _ (by simpa using hk)]
  have : g ≠ k := fun e => hne (by rw [e])
  simp [putRow, mapBlock, Sort.ahead, Array.getElem?_modify, this]
theorem take_putCellsE {α : Type} [Inhabited α] (enc : α → Value) (cur : Array Value) (ts : Array α) (h : ts.size ≤ cur.size) : (putCells enc 0 ts cur).toList.take ts.size = ts.toList.map enc := by
  apply List.ext_getElem?
  intro j
  by_cases hj : j < ts.size
  · rw [List.getElem?_take_of_lt hj, Array.getElem?_toList]
    simp [putCells, hj, show j < cur.size by omega]
  · rw [List.getElem?_take_eq_none (by omega), List.getElem?_eq_none (by simp; omega)]

abbrev Rs (W : World) (g : Nat) := { q : Rw // RwIn W g q }
def cfR (W : World) (g : Nat) (x y : Rs W g) : Int := Lib.compareInt (hd x.1) (hd y.1)
theorem ltR (W : World) (g : Nat) (x y : Rs W g) : ltOf (cfR W g) x y = decide (hd x.1 < hd y.1) := by
  unfold ltOf cfR
  rw [compareInt_eq]
  by_cases h1 : hd x.1 < hd y.1
  · simp [h1]
  · by_cases h2 : hd y.1 < hd x.1 <;> simp [h1, h2]
theorem swoR (W : World) (g : Nat) : SWO (ltOf (cfR W g)) where
  irrefl x := by rw [ltR]; simp
  trans x y z h1 h2 := by
    rw [ltR] at *
    simp only [decide_eq_true_eq] at *
    omega
  ntrans x y z h1 h2 := by
    rw [ltR] at *
    simp only [decide_eq_false_iff_not] at *
    omega
theorem encR_one (W : World) (g : Nat) : OneCell (fun q : Rs W g => rwV q.1) := fun _ => rfl

/-- Behind the sort the same slice owns the rows, by their first numbers. -/
theorem sortRows_any (base g cap : Nat) (D : List Rw) (w : World) (h : w.ownsRow base 57 1 (.slice (some ⟨g, 0, none⟩) D.length cap) D.length (D.map rwV)) (hD : ∀ q ∈ D, RwIn w g q) (hl : D.length ≤ 1000000) (hne : 0 < D.length) :
    Calls Tryz.prog 51 #[.slice (some ⟨g, 0, none⟩) D.length cap, .func (.func 52) #[] #[]] w fun e w' => e = .returned (.tuple #[]) ∧
      ∃ Ds : List Rw, Ds.Perm D ∧ Ds.Pairwise (fun x y => hd x ≤ hd y) ∧ w'.ownsRow base 57 1 (.slice (some ⟨g, 0, none⟩) D.length cap) D.length (Ds.map rwV) ∧ w.grownBy w' (some g) := by
  have eg : ∀ args w, (callFunc 52 args).run Tryz.prog w = .ok (.enter 52 args) w := enters_of Tryz.func52 (by kernel_rfl) rfl
  obtain ⟨g', cap', cur, hv, hbase, hb, hnc, hcap, hcur, htake⟩ : ∃ g' cap' cur, Value.slice (some ⟨g, 0, none⟩) D.length cap = .slice (some ⟨g', 0, none⟩) D.length cap' ∧ base ≤ g' ∧ w.heap[g']? = some (.cells cur 57 (0, 0)) ∧ D.length ≤ cap' ∧ cap' ≤ maxLen ∧ cur.size = cap' * 1 ∧ cur.toList.take (D.length * 1) = D.map rwV := by
    rcases h.2 with ⟨h0, _⟩ | h0
    · cases h0
    · exact h0
  cases hv
  have hlt : g < w.heap.size := (Array.getElem?_eq_some_iff.1 hb).1
  obtain ⟨q0, hq0⟩ : ∃ q, q ∈ D := ⟨D[0], List.getElem_mem hne⟩
  haveI : Inhabited (Rs w g) := ⟨⟨q0, hD q0 hq0⟩⟩
  obtain ⟨d, hdd⟩ : ∃ d : List (Rs w g), d = D.attach.map (fun q => ⟨q.1, hD q.1 q.2⟩) := ⟨_, rfl⟩
  have hdv : d.map (fun q => q.1) = D := by rw [hdd, List.map_map]; exact List.attach_map_subtype_val D
  have hdl : d.length = D.length := by rw [← hdv]; simp
  have hlay : CmpLays1 Tryz.prog 52 #[] (fun q : Rs w g => rwV q.1) (cfR w g) g 0 d.toArray.size w := by
    intro m os dk _ x y
    have hc : ∀ q : Rs w g, (sortWorld (fun q : Rs w g => rwV q.1) w g 0 m dk os).cell? ⟨q.1.b, 0, none⟩ = some (.int .i64 (hd q.1)) := fun q => by
      have hk := (grownBy_sortedE (fun q : Rs w g => rwV q.1) (w := w) (g := g) (n := m) (os := os) dk).block q.1.b q.2.1 (fun e => q.2.2.1 (by simpa using e))
      exact (World.cell?_of_block hk).trans q.2.2.2.2
    exact cmpHead_any x.1.b y.1.b x.1.ns.length y.1.ns.length x.1.cap y.1.cap _ _ _ x.2.2.2.1 y.2.2.2.1 (hc x) (hc y)
  have hH : Holds (fun q : Rs w g => rwV q.1) w g 0 d.toArray := by
    intro j hj
    have hj' : j < D.length := by simpa [hdl] using hj
    refine ⟨?_, by have := h.frozenAt j; simpa using this⟩
    rw [Nat.zero_add, h.cellAt j (by omega), getElem!_pos _ j hj, ← hdv, List.map_map, List.getElem?_map, List.getElem?_eq_getElem (by simpa using hj)]
    simp
  have hcon := Tryz.slices_SortFunc_f107 (fun q : Rs w g => rwV q.1) (encR_one w g) (cfR w g) (swoR w g) 52 #[] g 0 cap d.toArray w eg hlay hH hlt (by simp; omega)
  simp only [List.size_toArray, hdl] at hcon
  refine Calls.mono hcon ?_
  rintro e w' ⟨he, d', n, os, hp, hsrt, hw⟩
  have hs' : d'.size = D.length := by rw [hp.1]; simpa using hdl
  have hperm : d'.toList.Perm d := by
    have h3 := hp.2.2
    rw [show d'.extract 0 D.length = d' by rw [← hs']; simp, show d.toArray.extract 0 D.length = d.toArray by rw [← hdl]; simp] at h3
    simpa using h3
  refine ⟨he, d'.toList.map (fun q => q.1), ?_, ?_, ?_, ?_⟩
  · rw [← hdv]; exact hperm.map _
  · rw [List.pairwise_map, List.pairwise_iff_getElem]
    intro i j hi hj hij
    have h4 := hsrt i j (Nat.zero_le _) hij (by simpa [hs'] using hj)
    rw [ltR, getElem!_pos _ i (by simpa using hi), getElem!_pos _ j (by simpa using hj)] at h4
    simp only [decide_eq_false_iff_not] at h4
    simp only [Array.getElem_toList]
    omega
  · subst hw
    refine ⟨by simp [hs'], .inr ⟨g, cap, _, rfl, hbase, heap_sortedE _ _ hb, hnc, hcap, by simp [putCells, hcur], ?_⟩⟩
    rw [Nat.mul_one, ← hs', take_putCellsE _ _ _ (by rw [hs', hcur]; omega), List.map_map]; rfl
  · subst hw
    exact grownBy_sortedE _ _
end Go.Proofs.YtjimdnmdnjhnjaaGreatDoor
