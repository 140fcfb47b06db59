/- Contracts: slices.Sorted(slices.Values(..)) of ints: the iterator over a slice, what is collected of it, and sorted. DERIVED: THE SHELF's CONTRACTS AT THIS DUMP, IN PLAIN WORDS (tools/lay-plain.mjs out of 'YtmdbpkomanhpoaaGreatDoorShRaw.lean', which tools/lay-shelf.mjs wrote): THE SAME DECLARATIONS UNDER THE SAME NAMES: 'import', 'namespace', 'open', 'def', 'theorem' AND NOTHING ELSE: no command of the shelf's: FOR A HAND-IN. Each laying: the table of numbers ('.._ren') and one theorem, a field a fact of the dump's own or the kernel's comparison; each contract: ONE APPLICATION. Contracts: slices.Sorted(slices.Values(..)); the error of a track. -/
import Derived.RangeFuncBox
import Derived.RangeFuncLeaves
import Derived.Shelf.Abstract
import Derived.WalkKit
import Derived.OwnWalkIn
import Derived.TacticsInMore
import Derived.LoopNIn
import Derived.LoopIn
import Derived.Maps.AppendAt
import Derived.Shelf.Small.Bits
import Derived.Shelf.Small.Wraps
import Derived.Shelf.Strconv.Itoa0
import Derived.Shelf.Sort.Plain
import Derived.Ground.Names2Prog
import Derived.Shelf.Slices.SearchI
import Derived.Shelf.Slices.In.SortNone
import Derived.Test.YtmdbpkomanhpoaaGreatDoorProg
import Derived.Sort.OwnSortedInts
import Derived.Test.YtmdbpkomanhpoaaGreatDoorZqCvM
namespace Go.Proofs.YtmdbpkomanhpoaaGreatDoor
open Go.RowKit Go.Shelf

attribute [local go_sem] Oper.semAt_some

/-- What has come when k rounds are over. -/
def came {α : Type} (f : Nat → α) (k : Nat) : List α := (List.range k).map f
theorem came_succ {α : Type} (f : Nat → α) (k : Nat) : came f (k + 1) = came f k ++ [f k] := by simp [came, List.range_succ]
theorem came_length {α : Type} (f : Nat → α) (k : Nat) : (came f k).length = k := by simp [came]
theorem came_all (zs : List Int) : came (fun j => zs[j]?.getD 0) zs.length = zs := by
  apply List.ext_getElem
  · simp [came]
  · intro i h1 h2
    simp [came, h2]
theorem came_take (zs : List Int) {k : Nat} (hk : k ≤ zs.length) : came (fun j => zs[j]?.getD 0) k = zs.take k := by
  apply List.ext_getElem
  · simp [came, hk]
  · intro i h1 h2
    have : i < zs.length := by simp [came] at h1; omega
    simp [came, this]

set_option maxRecDepth 100000 in
set_option maxHeartbeats 2000000 in
theorem values1_in (F : Fence) (n : Nat) (h7 : F.fn 125) (hro : F.round = none) (hn : 1 ≤ n) (l Bs n₀ b off len cap : Nat) (zs : List Int) (hreach : len * 8 ≤ 140737488351232) (hb : b < n₀) (J Jx : List Int → World → Prop)
    (hY : ∀ pre x W, J pre W → pre.length < len → YieldAt F (n - 1) Tryz.prog l #[.int .i64 x] W fun e W' =>
      (e = .returned (.bool true) ∧ J (pre ++ [x]) W' ∧ Below n₀ W W') ∨ (e = .returned (.bool false) ∧ Jx (pre ++ [x]) W'))
    (W : World) (hBs : W.cell? ⟨Bs, 0, none⟩ = some (.slice (some ⟨b, off, none⟩) len cap)) (hc : ∀ j, j < len → W.cell? ⟨b, off + j, none⟩ = some (.int .i64 (zs[j]?.getD 0))) (h0 : J [] W) :
    CallsIn F n Tryz.prog 125 #[.func (.yield l) #[] #[], .pointer (some ⟨Bs, 0, none⟩)] W fun e W' => (∃ v, e = .returned v) ∧
      ((∃ ys, ys = came (fun j => zs[j]?.getD 0) len ∧ J ys W') ∨ (∃ pre, (∃ k, k ≤ len ∧ pre = came (fun j => zs[j]?.getD 0) k) ∧ Jx pre W')) := by
  refine callsIn_of_wp Tryz.func125 rfl h7 ?_ hro
  simp only [Tryz.ntmps125, List.size_toArray, List.length_cons, List.length_nil, Nat.reduceAdd, Nat.reduceSub, Array.replicate_succ, Array.replicate_zero, List.push_toArray, List.append_toArray, List.nil_append, List.cons_append]
  gi_wp2
  gi_loopw [7] (fun i wr => ∃ k : Nat, k ≤ len ∧ i = .int .i64 k ∧ J (came (fun j => zs[j]?.getD 0) k) wr ∧ Below n₀ W wr)
    (fun i _ => len - (intOf i).toNat)
  case atStart => exact ⟨0, Nat.zero_le _, rfl, h0, Below.refl _ _⟩
  case round =>
    obtain ⟨k, hk, rfl, hJs, hnx⟩ := hrel
    have hcx : k < len → wr.cell? ⟨b, off + k, none⟩ = some (.int .i64 (zs[k]?.getD 0)) := fun h => (hnx.cell (p := ⟨b, off + k, none⟩) hb).trans (hc k h)
    by_cases hlt : k < len
    · obtain ⟨fn, tmps, assign, body, hy, hR⟩ := hY _ (zs[k]?.getD 0) wr hJs (by rw [came_length]; exact hlt)
      have hcx' := hcx hlt
      gi_wp2
      refine hR.mono ?_
      rintro e W3 (⟨rfl, hJ3, hk3⟩ | ⟨rfl, hJx3⟩)
      · gi_wp2
        go_roundw
        case rel => exact ⟨k + 1, by omega, by simp, by rw [came_succ]; exact hJ3, hnx.trans hk3⟩
        case measure => simp [intOf]; omega
      · gi_wp2
        refine bodyPost_ret (results_none rfl _ _ _) rfl ?_
        exact ⟨⟨_, rfl⟩, .inr ⟨_, ⟨k + 1, by omega, (came_succ _ _).symm⟩, hJx3⟩⟩
    · obtain rfl : k = len := by omega
      gi_wp2
      go_end0
      exact ⟨⟨_, rfl⟩, .inl ⟨_, rfl, hJs⟩⟩

/-- The slice value sv holds the ints zs, in a block below n₀; or there are none. -/
def Ints (n₀ : Nat) (W : World) (sv : Value) (zs : List Int) : Prop :=
  (∃ A cap, sv = .slice A 0 cap ∧ zs = []) ∨ ∃ b off cap, sv = .slice (some ⟨b, off, none⟩) zs.length cap ∧ b < n₀ ∧ ∀ j, j < zs.length → W.cell? ⟨b, off + j, none⟩ = some (.int .i64 (zs[j]?.getD 0))
theorem Ints.below {n₀ : Nat} {A B : World} (h : Below n₀ A B) {sv : Value} {zs : List Int} : Ints n₀ A sv zs → Ints n₀ B sv zs
  | .inl e => .inl e
  | .inr ⟨b, off, cap, e, hb, hc⟩ => .inr ⟨b, off, cap, e, hb, fun j hj => (h.cell (p := ⟨b, off + j, none⟩) hb).trans (hc j hj)⟩

set_option maxRecDepth 100000 in
set_option maxHeartbeats 1000000 in
theorem values1_nil_in (F : Fence) (n : Nat) (h7 : F.fn 125) (hro : F.round = none) (l Bs : Nat) (A : Option Addr) (cap : Nat) (J : List Int → World → Prop) (W : World) (hBs : W.cell? ⟨Bs, 0, none⟩ = some (.slice A 0 cap)) (h0 : J [] W) :
    CallsIn F n Tryz.prog 125 #[.func (.yield l) #[] #[], .pointer (some ⟨Bs, 0, none⟩)] W fun e W' => (∃ v, e = .returned v) ∧ J [] W' := by
  refine callsIn_of_wp Tryz.func125 rfl h7 ?_ hro
  simp only [Tryz.ntmps125, List.size_toArray, List.length_cons, List.length_nil, Nat.reduceAdd, Nat.reduceSub, Array.replicate_succ, Array.replicate_zero, List.push_toArray, List.append_toArray, List.nil_append, List.cons_append]
  gi_wp2
  gi_loopw [7] (fun i wr => i = .int .i64 0 ∧ J [] wr) (fun _ _ => 0)
  case atStart => exact ⟨rfl, h0⟩
  case round =>
    obtain ⟨rfl, hJs⟩ := hrel
    gi_wp2
    go_end0
    exact ⟨⟨_, rfl⟩, hJs⟩

theorem values_stops (F : Fence) (n : Nat) (h7 : F.fn 125) (hro : F.round = none) (hn : 1 ≤ n) (Bs n₀ : Nat) (sv : Value) (zs : List Int) (hreach : zs.length * 8 ≤ 140737488351232) (w : World) (hBs : Bs < w.heap.size) (hn₀ : n₀ ≤ w.heap.size)
    (hc : w.cell? ⟨Bs, 0, none⟩ = some sv) (hI : Ints n₀ w sv zs) :
    SeqStopsK F n Tryz.prog 125 #[.pointer (some ⟨Bs, 0, none⟩)] (fun x : Int => #[Value.int .i64 x]) (Below n₀) (fun ys => ys = zs) (fun pre => pre <+: zs) zs.length w := fun l J Jx W hW _ _ hY h0 => by
  have hc' := (hW.cell (p := ⟨Bs, 0, none⟩) hBs).trans hc
  rcases hI.below (hW.mono hn₀) with ⟨A, cap, rfl, rfl⟩ | ⟨b, off, cap, rfl, hb, hcs⟩
  · exact (values1_nil_in F n h7 hro l Bs A cap J W hc' h0).mono fun e W' ⟨he, hj⟩ => ⟨he, .inl ⟨_, rfl, hj⟩⟩
  · refine (values1_in F n h7 hro hn l Bs n₀ b off zs.length cap zs hreach hb J Jx hY W hc' hcs h0).mono ?_
    rintro e W' ⟨he, ⟨ys, rfl, hj⟩ | ⟨pre, ⟨k, hk, rfl⟩, hj⟩⟩
    · exact ⟨he, .inl ⟨_, came_all zs, hj⟩⟩
    · exact ⟨he, .inr ⟨_, by rw [came_take zs hk]; exact List.take_prefix _ _, hj⟩⟩

set_option maxRecDepth 100000 in
set_option maxHeartbeats 2000000 in
theorem appendSeq_in (F : Fence) (n : Nat) (h3 : F.fn 158) (h5 : F.fn 125) (hro : F.round = none) (hn : 3 ≤ n) (Bs : Nat) (sv : Value) (zs : List Int) (hlen : zs.length ≤ maxLen) (hbytes : zs.length * 8 ≤ 140737488351232) (w : World)
    (hBs : Bs < w.heap.size) (hc : w.cell? ⟨Bs, 0, none⟩ = some sv) (hI : Ints w.heap.size w sv zs) :
    CallsIn F n Tryz.prog 158 #[.slice none 0 0, .func (.func 125) #[] #[.pointer (some ⟨Bs, 0, none⟩)]] w fun e W' => ∃ v, e = .returned v ∧ W'.ownsRow w.heap.size 3 1 v zs.length (zs.map (Value.int .i64)) ∧ (v = .slice none 0 0 ↔ zs = []) ∧ Below w.heap.size w W' := by
  have h1 : 1 ≤ n := by omega
  obtain ⟨i0, hi, hz0, hz1, hz2⟩ := info_parts infoInt
  refine callsIn_of_wp_marks Tryz.func158 rfl h3 ?_ hro
  simp only [Tryz.ntmps158, List.size_toArray, List.length_cons, List.length_nil, Nat.reduceAdd, Nat.reduceSub, Array.replicate_succ, Array.replicate_zero, List.push_toArray, List.append_toArray, List.nil_append, List.cons_append]
  gi_wp2
  have bO := Boxed.new w 107 (.slice none 0 0)
  have hB0 : Below w.heap.size w (w.alloc (.cells #[.slice none 0 0] 107)) := (Below.refl _ w).alloc (Nat.le_refl _) _
  refine wpIn_rangeFunc_ownG hro h1 (gf := 125) (lb := #[.pointer (some ⟨Bs, 0, none⟩)]) rfl h5 (enters_of Tryz.func125 (by kernel_rfl) rfl)
    (values_stops F (n - 1) h5 hro (by omega) Bs w.heap.size sv zs hbytes _ (by simp; omega) (by simp) ((hB0.cell (p := ⟨Bs, 0, none⟩) hBs).trans hc) (hI.below hB0)) belowK_t (belowK_b (by simp)) (Below.refl _ _) (fun _ => rfl)
    (fun pre W => (∃ v, Boxed W w.heap.size 107 v ∧ W.ownsRow w.heap.size 3 1 v pre.length (pre.map (Value.int .i64)) ∧ (v = .slice none 0 0 ↔ pre = [])) ∧ Below w.heap.size w W)
    (fun _ _ _ => False)
    (OwnFrom.and (Own.from (holdsRow_own w.heap.size w.heap.size 107 3 1 (fun pre : List Int => pre.length) (fun pre => pre.map (Value.int .i64)) (fun pre v => v = .slice none 0 0 ↔ pre = [])) _) (ownFrom_below (Nat.le_refl _) (by simp)))
    (fun _ _ _ _ _ hs _ _ => hs)
    ⟨⟨_, bO, World.ownsRow_nil _ _ _ _, by simp⟩, hB0⟩
    (fun x => { tmps := #[.slice none 0 0, .func (.func 125) #[] #[.pointer (some ⟨Bs, 0, none⟩)], .pointer (some ⟨w.heap.size, 0, none⟩), undef, .slice none 0 0, .int .i64 x, .func (.func 125) #[] #[.pointer (some ⟨Bs, 0, none⟩)], .int .i64 x, undef, undef, undef, undef, undef], defers := [] }) ?assign ?body ?done ?stop
  case assign =>
    intro l x W K hK
    gi_wp2
    exact hK
  case body =>
    rintro l pre x W ⟨⟨v, hv, hrow, hnil⟩, hB⟩ hlt
    have hc := hv.cell
    gi_wp2_with (gi_at_builtin; refine wpListIn_append_own _ rfl _ _ 107 rfl w.heap.size 3 i0 (.int .i64 0) 1 8 Tryz.underlying107 hi hz0 hz1 hz2 rfl (by decide) _ _ _ rfl (hrow.alloc _) ⟨W.heap.size, 0, none⟩ 1 1 [.int .i64 x] rfl rfl (cell_one_new _ _ _) (by simp [Value.oneCell']) (by omega) (by omega) (by have := hB.size; simp; omega) ?_; intro v' w1 hown' hgrow _; obtain ⟨g', cap', rfl⟩ := ownsRow_succ hown'; obtain ⟨hv1, hv2, hr2, hk2, hb2⟩ := hv.appended (by decide) hrow hB.size (Nat.le_refl _) hown' hgrow; have hc1 := hv1.cell; have hf1 := hv1.frozen)
    exact ⟨hk2.from _, hb2, ⟨_, hv2, by simpa using hr2, by simp⟩, hB.trans hb2⟩
  case done =>
    rintro D ys W hD rfl ⟨⟨v, hv, hrow, hnil⟩, hB⟩ hK
    have hc := hv.cell
    gi_wp2
    refine ⟨by simp, .inl ⟨_, _, rfl, run_takeDeferred hK, ?_⟩⟩
    exact ⟨_, results_tmp rfl _ _ _, v, rfl, ownsRow_putObj hrow _ hK rfl, hnil, hB.trans (belowK_b (w := w) (Nat.le_refl _) W D _ _ (by simp at hD; omega) hK rfl rfl)⟩
  case stop =>
    rintro D c pre W _ _ h _
    exact h.elim
end Go.Proofs.YtmdbpkomanhpoaaGreatDoor

namespace Go.Proofs
open Go.Shelf
def Tryz.lays189_ren : Go.Shelf.Ren := ⟨fun | 189 => 124 | 125 => 160 | 257 => 159 | 128 => 192 | 129 => 176 | 294 => 183 | 295 => 184 | 296 => 185 | 297 => 186 | 298 => 187 | 299 => 188 | 216 => 189 | 300 => 190 | 301 => 191 | 328 => 203 | 329 => 204 | 330 => 205 | 331 => 206 | 332 => 207 | 215 => 208 | 343 => 213 | n => n, fun | 28 => 107 | 3 => 3 | 46 => 233 | 0 => 0 | 51 => 254 | 53 => 223 | 4 => 4 | 183 => 262 | 182 => 261 | 131 => 206 | 5 => 5 | 9 => 9 | 218 => 282 | 222 => 208 | 228 => 295 | 229 => 296 | n => n, fun | n => n⟩
theorem Tryz.lays189 : Go.Proofs.Lays.n189 Tryz.prog Tryz.lays189_ren := {
  mixed := by kernel_rfl
  f125 := Tryz.func160.trans (congrArg some (by kernel_rfl))
  f128 := Tryz.func192.trans (congrArg some (by kernel_rfl))
  f129 := Tryz.func176.trans (congrArg some (by kernel_rfl))
  f189 := Tryz.func124.trans (congrArg some (by kernel_rfl))
  f215 := Tryz.func208.trans (congrArg some (by kernel_rfl))
  f216 := Tryz.func189.trans (congrArg some (by kernel_rfl))
  f257 := Tryz.func159.trans (congrArg some (by kernel_rfl))
  f294 := Tryz.func183.trans (congrArg some (by kernel_rfl))
  f295 := Tryz.func184.trans (congrArg some (by kernel_rfl))
  f296 := Tryz.func185.trans (congrArg some (by kernel_rfl))
  f297 := Tryz.func186.trans (congrArg some (by kernel_rfl))
  f298 := Tryz.func187.trans (congrArg some (by kernel_rfl))
  f299 := Tryz.func188.trans (congrArg some (by kernel_rfl))
  f300 := Tryz.func190.trans (congrArg some (by kernel_rfl))
  f301 := Tryz.func191.trans (congrArg some (by kernel_rfl))
  f328 := Tryz.func203.trans (congrArg some (by kernel_rfl))
  f329 := Tryz.func204.trans (congrArg some (by kernel_rfl))
  f330 := Tryz.func205.trans (congrArg some (by kernel_rfl))
  f331 := Tryz.func206.trans (congrArg some (by kernel_rfl))
  f332 := Tryz.func207.trans (congrArg some (by kernel_rfl))
  f343 := Tryz.func213.trans (congrArg some (by kernel_rfl))
  t0 := Tryz.underlying0
  a0 := Tryz.isAgg0
  z0 := Tryz.sizeOf0
  v0 := Tryz.zeroValue0
  t3 := Tryz.underlying3
  a3 := Tryz.isAgg3
  z3 := Tryz.sizeOf3
  v3 := Tryz.zeroValue3
  t4 := Tryz.underlying4
  a4 := Tryz.isAgg4
  z4 := Tryz.sizeOf4
  v4 := Tryz.zeroValue4
  t5 := Tryz.underlying5
  a5 := Tryz.isAgg5
  z5 := Tryz.sizeOf5
  v5 := Tryz.zeroValue5
  t9 := Tryz.underlying9
  a9 := Tryz.isAgg9
  z9 := Tryz.sizeOf9
  v9 := Tryz.zeroValue9
  t28 := Tryz.underlying107
  a28 := Tryz.isAgg107
  z28 := Tryz.sizeOf107
  v28 := Tryz.zeroValue107
  t46 := Tryz.underlying233
  a46 := Tryz.isAgg233
  z46 := Tryz.sizeOf233
  v46 := Tryz.zeroValue233
  t51 := Tryz.underlying254
  a51 := Tryz.isAgg254
  z51 := Tryz.sizeOf254
  v51 := Tryz.zeroValue254
  t53 := Tryz.underlying223
  a53 := Tryz.isAgg223
  z53 := Tryz.sizeOf223
  v53 := Tryz.zeroValue223
  t131 := Tryz.underlying206
  a131 := Tryz.isAgg206
  z131 := Tryz.sizeOf206
  v131 := Tryz.zeroValue206
  t182 := Tryz.underlying261
  a182 := Tryz.isAgg261
  z182 := Tryz.sizeOf261
  v182 := Tryz.zeroValue261
  t183 := Tryz.underlying262
  a183 := Tryz.isAgg262
  z183 := Tryz.sizeOf262
  v183 := Tryz.zeroValue262
  t218 := Tryz.underlying282
  a218 := Tryz.isAgg282
  z218 := Tryz.sizeOf282
  v218 := Tryz.zeroValue282
  t222 := Tryz.underlying208
  a222 := Tryz.isAgg208
  z222 := Tryz.sizeOf208
  v222 := Tryz.zeroValue208
  t228 := Tryz.underlying295
  a228 := Tryz.isAgg295
  z228 := Tryz.sizeOf295
  v228 := Tryz.zeroValue295
  t229 := Tryz.underlying296
  a229 := Tryz.isAgg296
  z229 := Tryz.sizeOf296
  v229 := Tryz.zeroValue296 }
open Go.Sort Go.RowKit in
theorem Tryz.slices_Sort_int (blk off cap : Nat) (zs : List Int) (w : World) (hH : Holds (Value.int .i64) w blk off zs.toArray) (hblk : blk < w.heap.size) (hsz : zs.length < 4611686018427387904) :
    Calls Tryz.prog 124 #[.slice (some ⟨blk, off, none⟩) zs.length cap] w fun e w' =>
      e = .returned (.tuple #[]) ∧ ∃ n os, w' = grow (putRow (Value.int .i64) (Sort.ahead w n) blk off (zs.mergeSort fun x y => decide (x ≤ y)).toArray) os := Any.slices_Sort_int Tryz.lays189 blk off cap zs w hH hblk hsz
open Go.RowKit Go.Sort in
/-- .. and plain. (LAID: no walk: one application.) -/
theorem Tryz.slices_Sort_int_none (p : Option Addr) (cap : Nat) (w : World) :
    Calls Tryz.prog 124 #[.slice p 0 cap] w fun e w' => e = .returned (.tuple #[]) ∧ w' = w := Any.slices_Sort_int_none Tryz.lays189 p cap w
end Go.Proofs

namespace Go.Proofs.YtmdbpkomanhpoaaGreatDoor
open Go.RowKit

set_option maxHeartbeats 400000 in
theorem values_any (A : Option Addr) (n c : Nat) (w : World) :
    Calls Tryz.prog 85 #[.slice A n c] w fun e w' => e = .returned (.func (.func 125) #[] #[.pointer (some ⟨w.heap.size, 0, none⟩)]) ∧ w' = w.alloc (.cells #[.slice A n c] 107) := by
  go_enter Tryz.func85, Tryz.ntmps85
  go_wp2
  go_ret
  exact ⟨rfl, rfl⟩

theorem appendSeq_any (Bs : Nat) (sv : Value) (zs : List Int) (hlen : zs.length ≤ 1000000000) (w : World) (hBs : Bs < w.heap.size) (hc : w.cell? ⟨Bs, 0, none⟩ = some sv) (hI : Ints w.heap.size w sv zs) :
    Calls Tryz.prog 158 #[.slice none 0 0, .func (.func 125) #[] #[.pointer (some ⟨Bs, 0, none⟩)]] w fun e W' => ∃ v, e = .returned v ∧ W'.ownsRow w.heap.size 3 1 v zs.length (zs.map (Value.int .i64)) ∧ (v = .slice none 0 0 ↔ zs = []) ∧ Below w.heap.size w W' :=
  callsIn_wide.1 (appendSeq_in Fence.wide 5 trivial trivial rfl (by omega) Bs sv zs (by unfold maxLen; omega) (by omega) w hBs hc hI)

theorem collect_any (Bs : Nat) (sv : Value) (zs : List Int) (hlen : zs.length ≤ 1000000000) (w : World) (hBs : Bs < w.heap.size) (hc : w.cell? ⟨Bs, 0, none⟩ = some sv) (hI : Ints w.heap.size w sv zs) :
    Calls Tryz.prog 123 #[.func (.func 125) #[] #[.pointer (some ⟨Bs, 0, none⟩)]] w fun e W' => ∃ v, e = .returned v ∧ W'.ownsRow w.heap.size 3 1 v zs.length (zs.map (Value.int .i64)) ∧ (v = .slice none 0 0 ↔ zs = []) ∧ Below w.heap.size w W' := by
  have h := Lib.hid (appendSeq_any Bs sv zs hlen w hBs hc hI)
  go_enter Tryz.func123, Tryz.ntmps123
  go_wp2_with fail
  refine h.out.mono ?_
  rintro e w1 ⟨v, rfl, h1, h2, h3⟩
  have H2 := Lib.hid h2; clear h2
  go_wp2
  go_ret
  exact ⟨v, rfl, h1, H2.out, h3⟩

/-- The numbers of a list, ascending. -/
def sortV (zs : List Int) : List Int := zs.mergeSort fun x y => decide (x ≤ y)
theorem sortV_length (zs : List Int) : (sortV zs).length = zs.length := List.length_mergeSort ..

set_option maxHeartbeats 400000 in
theorem sorted_any (Bs : Nat) (sv : Value) (zs : List Int) (hlen : zs.length ≤ 1000000000) (w : World) (hBs : Bs < w.heap.size) (hc : w.cell? ⟨Bs, 0, none⟩ = some sv) (hI : Ints w.heap.size w sv zs) :
    Calls Tryz.prog 84 #[.func (.func 125) #[] #[.pointer (some ⟨Bs, 0, none⟩)]] w fun e W' => ∃ v, e = .returned v ∧ W'.ownsRow w.heap.size 3 1 v zs.length ((sortV zs).map (Value.int .i64)) ∧ Below w.heap.size w W' := by
  have h := Lib.hid (collect_any Bs sv zs hlen w hBs hc hI)
  go_enter Tryz.func84, Tryz.ntmps84
  go_wp2_with fail
  refine h.out.mono ?_
  rintro e w1 ⟨v, rfl, h1, h2, h3⟩
  have H2 := Lib.hid h2; clear h2
  rcases h1.2 with ⟨rfl, h0⟩ | ⟨g, cap, cur, rfl, hbase, hb, hn1, hn2, hn3, hn4⟩
  · have hz : zs = [] := H2.out.1 rfl
    subst hz
    go_wp2_with fail
    refine (Tryz.slices_Sort_int_none none 0 _).mono ?_
    rintro e w2 ⟨rfl, rfl⟩
    go_wp2
    go_ret
    exact ⟨_, rfl, ⟨by simp [sortV], .inl ⟨rfl, rfl⟩⟩, h3⟩
  · have hH := holds_of_blockI hb (by simpa using hn4)
    have hgl : g < w1.heap.size := (Array.getElem?_eq_some_iff.1 hb).1
    have hs := Lib.hid (Tryz.slices_Sort_int g 0 cap zs w1 hH hgl (by omega))
    go_wp2_with fail
    refine hs.out.mono ?_
    rintro e w2 ⟨rfl, nn, os, hw⟩
    have o2 := ownsRow_sortedI (n := nn) (os := os) (ts := sortV zs) (by rw [sortV_length]) hbase hb hn1 hn2 hn3
    have g2 := grownBy_sortedI (w := w1) (g := g) (n := nn) (os := os) (sortV zs).toArray
    unfold sortV at o2 g2
    rw [← hw] at o2 g2
    clear hw
    go_wp2
    go_ret
    exact ⟨_, rfl, o2, h3.grown g2 (Below.size h3) (fun k e => by cases e; exact hbase)⟩

/-- A track. -/
structure Tk where
  frm : Int
  til : Int
  slip : Int
  reach : Int
def tkC (t : Tk) : Array Value := #[.int .i64 t.frm, .int .i64 t.til, .int .i64 t.slip, .int .i64 t.reach]
/-- The error of a track. -/
def trackE (t : Tk) : Int :=
  if wi t.frm 0 1000000 = false then 2 else if wi t.til 0 1000000 = false then 2 else if wi t.slip 0 1000000 = false then 2 else if wi t.reach 0 1000000 = false then 2 else if t.til < t.frm then 9 else 0

set_option maxRecDepth 100000 in
set_option maxHeartbeats 1000000 in
theorem checkTrack_any (t : Tk) (w : World) :
    Calls Tryz.prog 81 #[.agg (tkC t)] w fun e w' => e = .returned (.int .i64 (trackE t)) ∧ Below w.heap.size w w' := by
  unfold tkC
  have i0 : ∀ W, (Instr.index 200 (.agg #[.int .i64 t.frm, .int .i64 t.til, .int .i64 t.slip, .int .i64 t.reach]) (.int .i64 0)).run Tryz.prog W = .ok (.int .i64 t.frm) W := fun _ => by kernel_rfl
  have i1 : ∀ W, (Instr.index 200 (.agg #[.int .i64 t.frm, .int .i64 t.til, .int .i64 t.slip, .int .i64 t.reach]) (.int .i64 1)).run Tryz.prog W = .ok (.int .i64 t.til) W := fun _ => by kernel_rfl
  have i2 : ∀ W, (Instr.index 200 (.agg #[.int .i64 t.frm, .int .i64 t.til, .int .i64 t.slip, .int .i64 t.reach]) (.int .i64 2)).run Tryz.prog W = .ok (.int .i64 t.slip) W := fun _ => by kernel_rfl
  have i3 : ∀ W, (Instr.index 200 (.agg #[.int .i64 t.frm, .int .i64 t.til, .int .i64 t.slip, .int .i64 t.reach]) (.int .i64 3)).run Tryz.prog W = .ok (.int .i64 t.reach) W := fun _ => by kernel_rfl
  go_enter Tryz.func81, Tryz.ntmps81
  go_wp2
  go_loop [14] (fun i => i = .int .i64 0 ∨ (i = .int .i64 1 ∧ Hid (wi t.frm 0 1000000 = true)) ∨ (i = .int .i64 2 ∧ Hid (wi t.frm 0 1000000 = true) ∧ Hid (wi t.til 0 1000000 = true)) ∨ (i = .int .i64 3 ∧ Hid (wi t.frm 0 1000000 = true) ∧ Hid (wi t.til 0 1000000 = true) ∧ Hid (wi t.slip 0 1000000 = true)) ∨
    (i = .int .i64 4 ∧ Hid (wi t.frm 0 1000000 = true) ∧ Hid (wi t.til 0 1000000 = true) ∧ Hid (wi t.slip 0 1000000 = true) ∧ Hid (wi t.reach 0 1000000 = true))) (fun i => 4 - (intOf i).toNat)
  case atStart => exact .inl rfl
  case round =>
    rcases hrel with rfl | ⟨rfl, h1⟩ | ⟨rfl, h1, h2⟩ | ⟨rfl, h1, h2, h3⟩ | ⟨rfl, h1, h2, h3, h4⟩
    · cases hq : wi t.frm 0 1000000
      · have HE : Hid (trackE t = 2) := by unfold trackE; rw [hq]; rfl
        go_wp2_with (go_at_call 122; refine (within_any _ _ _ _).mono ?_; rintro e w1 ⟨rfl, rfl⟩)
        go_ret
        exact ⟨by rw [HE.out]; rfl, (by repeat (first | (with_reducible exact Below.refl _ _) | (with_reducible assumption) | ((with_reducible refine Below.setCell ?_ ?_ _); rotate_left; · (first | exact Nat.le_refl _ | (simp; done) | (simp; omega) | omega)) | ((with_reducible refine Below.alloc ?_ ?_ _); rotate_left; · (first | exact Nat.le_refl _ | (simp; done) | (simp; omega) | omega)) | (with_reducible apply Below.drew) | (with_reducible apply below_drewN') | (refine Below.trans ?_ (Below.mono (by assumption) (by first | exact Nat.le_refl _ | (simp; done) | (simp; omega) | omega))) | exact Below.refl _ _ | assumption))⟩
      · go_wp2_with (go_at_call 122; refine (within_any _ _ _ _).mono ?_; rintro e w1 ⟨rfl, rfl⟩)
        go_round
        case rel => exact .inr (.inl ⟨rfl, Lib.hid (by first | exact hq | trivial)⟩)
        case measure => simp [intOf]
    · cases hq : wi t.til 0 1000000
      · have HE : Hid (trackE t = 2) := by unfold trackE; rw [h1.out, hq]; rfl
        go_wp2_with (go_at_call 122; refine (within_any _ _ _ _).mono ?_; rintro e w1 ⟨rfl, rfl⟩)
        go_ret
        exact ⟨by rw [HE.out]; rfl, (by repeat (first | (with_reducible exact Below.refl _ _) | (with_reducible assumption) | ((with_reducible refine Below.setCell ?_ ?_ _); rotate_left; · (first | exact Nat.le_refl _ | (simp; done) | (simp; omega) | omega)) | ((with_reducible refine Below.alloc ?_ ?_ _); rotate_left; · (first | exact Nat.le_refl _ | (simp; done) | (simp; omega) | omega)) | (with_reducible apply Below.drew) | (with_reducible apply below_drewN') | (refine Below.trans ?_ (Below.mono (by assumption) (by first | exact Nat.le_refl _ | (simp; done) | (simp; omega) | omega))) | exact Below.refl _ _ | assumption))⟩
      · go_wp2_with (go_at_call 122; refine (within_any _ _ _ _).mono ?_; rintro e w1 ⟨rfl, rfl⟩)
        go_round
        case rel => exact .inr (.inr (.inl ⟨rfl, h1, Lib.hid (by first | exact hq | trivial)⟩))
        case measure => simp [intOf]
    · cases hq : wi t.slip 0 1000000
      · have HE : Hid (trackE t = 2) := by unfold trackE; rw [h1.out, h2.out, hq]; rfl
        go_wp2_with (go_at_call 122; refine (within_any _ _ _ _).mono ?_; rintro e w1 ⟨rfl, rfl⟩)
        go_ret
        exact ⟨by rw [HE.out]; rfl, (by repeat (first | (with_reducible exact Below.refl _ _) | (with_reducible assumption) | ((with_reducible refine Below.setCell ?_ ?_ _); rotate_left; · (first | exact Nat.le_refl _ | (simp; done) | (simp; omega) | omega)) | ((with_reducible refine Below.alloc ?_ ?_ _); rotate_left; · (first | exact Nat.le_refl _ | (simp; done) | (simp; omega) | omega)) | (with_reducible apply Below.drew) | (with_reducible apply below_drewN') | (refine Below.trans ?_ (Below.mono (by assumption) (by first | exact Nat.le_refl _ | (simp; done) | (simp; omega) | omega))) | exact Below.refl _ _ | assumption))⟩
      · go_wp2_with (go_at_call 122; refine (within_any _ _ _ _).mono ?_; rintro e w1 ⟨rfl, rfl⟩)
        go_round
        case rel => exact .inr (.inr (.inr (.inl ⟨rfl, h1, h2, Lib.hid (by first | exact hq | trivial)⟩)))
        case measure => simp [intOf]
    · cases hq : wi t.reach 0 1000000
      · have HE : Hid (trackE t = 2) := by unfold trackE; rw [h1.out, h2.out, h3.out, hq]; rfl
        go_wp2_with (go_at_call 122; refine (within_any _ _ _ _).mono ?_; rintro e w1 ⟨rfl, rfl⟩)
        go_ret
        exact ⟨by rw [HE.out]; rfl, (by repeat (first | (with_reducible exact Below.refl _ _) | (with_reducible assumption) | ((with_reducible refine Below.setCell ?_ ?_ _); rotate_left; · (first | exact Nat.le_refl _ | (simp; done) | (simp; omega) | omega)) | ((with_reducible refine Below.alloc ?_ ?_ _); rotate_left; · (first | exact Nat.le_refl _ | (simp; done) | (simp; omega) | omega)) | (with_reducible apply Below.drew) | (with_reducible apply below_drewN') | (refine Below.trans ?_ (Below.mono (by assumption) (by first | exact Nat.le_refl _ | (simp; done) | (simp; omega) | omega))) | exact Below.refl _ _ | assumption))⟩
      · go_wp2_with (go_at_call 122; refine (within_any _ _ _ _).mono ?_; rintro e w1 ⟨rfl, rfl⟩)
        go_round
        case rel => exact .inr (.inr (.inr (.inr ⟨rfl, h1, h2, h3, Lib.hid (by first | exact hq | trivial)⟩)))
        case measure => simp [intOf]
    · have HE : Hid (trackE t = if t.til < t.frm then 9 else 0) := by unfold trackE; rw [h1.out, h2.out, h3.out, h4.out]; rfl
      go_wp2
      all_goals
        go_ret
        refine ⟨?_, (by repeat (first | (with_reducible exact Below.refl _ _) | (with_reducible assumption) | ((with_reducible refine Below.setCell ?_ ?_ _); rotate_left; · (first | exact Nat.le_refl _ | (simp; done) | (simp; omega) | omega)) | ((with_reducible refine Below.alloc ?_ ?_ _); rotate_left; · (first | exact Nat.le_refl _ | (simp; done) | (simp; omega) | omega)) | (with_reducible apply Below.drew) | (with_reducible apply below_drewN') | (refine Below.trans ?_ (Below.mono (by assumption) (by first | exact Nat.le_refl _ | (simp; done) | (simp; omega) | omega))) | exact Below.refl _ _ | assumption))⟩
        rw [HE.out]
        show Ending.returned (Value.int _ _) = _
        congr 2
        grind
end Go.Proofs.YtmdbpkomanhpoaaGreatDoor
