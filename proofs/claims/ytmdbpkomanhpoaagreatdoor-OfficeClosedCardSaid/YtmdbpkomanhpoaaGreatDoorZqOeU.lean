/- The seal behind one more entry (seal.next). Entries with their seals (office.sealed): the iterator. DERIVED: THE SHELF's CONTRACTS AT THIS DUMP, IN PLAIN WORDS (tools/lay-plain.mjs out of 'YtmdbpkomanhpoaaGreatDoorShRaw.lean', which tools/lay-shelf.mjs wrote): THE SAME DECLARATIONS UNDER THE SAME NAMES: 'import', 'namespace', 'open', 'def', 'theorem' AND NOTHING ELSE: no command of the shelf's: FOR A HAND-IN. Each laying: the table of numbers ('.._ren') and one theorem, a field a fact of the dump's own or the kernel's comparison; each contract: ONE APPLICATION. The error of entries that are written (office.entriesErr). Functions that range over functions: the marks among their deferred calls. The seal of a log (office.Seal). -/
import Derived.Lib.ConvBytes
import Derived.RangeFuncBox
import Derived.RangeFuncLeaves
import Derived.RangeFuncNested
import Derived.Shelf.Abstract
import Derived.WalkKit
import Derived.OwnWalkIn
import Derived.TacticsInMore
import Derived.LoopNIn
import Derived.LoopIn
import Derived.OrdersIn
import Derived.TacticsIn
import Derived.Shelf.Strings.Search3
import Derived.Shelf.Strings.Split
import Derived.Shelf.Strings.IndexAny
import Derived.Shelf.Strings.AsciiSet
import Derived.Shelf.Strings.IndexAnyAll
import Derived.Test.YtmdbpkomanhpoaaGreatDoorProg
import Derived.Deep.DeepCutAuto
import Derived.Test.YtmdbpkomanhpoaaGreatDoorZqOeO
import Derived.Test.YtmdbpkomanhpoaaGreatDoorZqRgW
import Derived.Test.YtmdbpkomanhpoaaGreatDoorZqCvM
namespace Go.Proofs.YtmdbpkomanhpoaaGreatDoor
open Go.RowKit Go.Lib

def sealStep (n : Int) (b : UInt8) : Int := (257 * n + b.toNat + 1) % 998244353
/-- The seal behind some bytes. -/
def sealV (n : Int) (l : List UInt8) : Int := l.foldl sealStep n
/-- The bytes of an entry. -/
def nextB (bb t : ByteArray) : List UInt8 := bb.data.toList ++ [10] ++ t.data.toList ++ [10]
theorem sealV_in {n : Int} (h : 0 ≤ n ∧ n < 998244353) : ∀ (l : List UInt8), 0 ≤ sealV n l ∧ sealV n l < 998244353 := by
  intro l
  induction l generalizing n with
  | nil => exact h
  | cons b l ih => exact ih ⟨Int.emod_nonneg _ (by decide), Int.emod_lt_of_pos _ (by decide)⟩
theorem sealV_snoc (n : Int) (l : List UInt8) {k : Nat} (h : k < l.length) : sealV n (l.take (k + 1)) = sealStep (sealV n (l.take k)) l[k] := by
  unfold sealV
  rw [List.take_succ_eq_append_getElem h, List.foldl_append]
  rfl
set_option maxRecDepth 100000 in
set_option maxHeartbeats 4000000 in
theorem next_any (n : Int) (bb t : ByteArray) (w : World) (hn : 0 ≤ n ∧ n < 998244353) (hb : bb.size ≤ 1000000) (ht : t.size ≤ 1000000) :
    Calls Tryz.prog 57 #[.int .i64 n, .agg #[.string bb, .string t]] w fun e w' => e = .returned (.int .i64 (sealV n (nextB bb t))) ∧ Below w.heap.size w w' := by
  obtain ⟨S, hS⟩ : ∃ S, bb ++ ⟨#[10]⟩ ++ t ++ ⟨#[10]⟩ = S := ⟨_, rfl⟩
  have HSL : Hid (nextB bb t = S.data.toList) := Lib.hid (by rw [← hS]; simp [nextB, ByteArray.data_append])
  have hsz : S.size ≤ 2000002 := by
    rw [← hS]
    simp only [ByteArray.size_append]
    have : (⟨#[10]⟩ : ByteArray).size = 1 := rfl
    omega
  have hcv := fun w => Lib.run_convert_string_bytes (P := Tryz.prog) w 9 83 5 S Tryz.underlying9 Tryz.underlying83 Tryz.underlying5
  have bo := Blk.new w 36 #[.string bb, .string t]
  have d0 := bo.cell 0
  have d1 := bo.cell 1
  have HB : Hid (Below w.heap.size w (bytesWorld (w.alloc (.cells #[.string bb, .string t] 36)) 5 S)) := Lib.hid (((Below.refl _ _).alloc (Nat.le_refl _) _).trans ((bytesWorld_below _ _ _).mono (by simp)))
  have HC : Hid (∀ (k : Nat) (h : k < S.data.toList.length), (bytesWorld (w.alloc (.cells #[.string bb, .string t] 36)) 5 S).cell? ⟨w.heap.size + 1, k, none⟩ = some (.int .u8 (S.data.toList[k].toNat : Nat))) := Lib.hid fun k h => by
    have hk : k < S.size := by rw [Array.length_toList] at h; exact h
    rw [show w.heap.size + 1 = (w.alloc (.cells #[.string bb, .string t] 36)).heap.size from by simp, bytesWorld_cell _ _ _ _ hk, List.getD_eq_getElem?_getD, List.getElem?_eq_getElem h]
    rfl
  have HN := Lib.hid (fun l => sealV_in hn l)
  have HSl : Hid (S.size = S.data.toList.length) := Lib.hid (Array.length_toList).symm
  clear bo
  rw [HSL.out]
  clear HSL
  generalize S.data.toList = L at *
  go_enter Tryz.func57, Tryz.ntmps57
  go_wp2
  clear d0 d1 hcv hS
  rw [HSl.out] at hsz ⊢
  clear HSl
  generalize bytesWorld (w.alloc (.cells #[.string bb, .string t] 36)) 5 S = W2 at *
  go_loopw [0, 16] (fun x i wr => ∃ k : Nat, k ≤ L.length ∧ x = .int .i64 (sealV n (L.take k)) ∧ i = .int .i64 k ∧ wr = W2) (fun _ i _ => L.length - (intOf i).toNat)
  case atStart => exact ⟨0, Nat.zero_le _, rfl, rfl, rfl⟩
  case round =>
    obtain ⟨k, hk, rfl, rfl, rfl⟩ := hrel
    by_cases hlt : k < L.length
    · have c0 := HC.out k hlt
      have HX := Lib.hid (sealV_snoc n L hlt)
      have hin := HN.out (L.take k)
      have hb8 : (L[k].toNat : Int) < 256 := by have := L[k].toNat_lt; omega
      have hb0 : 0 ≤ (L[k].toNat : Int) := by omega
      have HE : Hid (sealStep (sealV n (L.take k)) L[k] = (257 * sealV n (L.take k) + L[k].toNat + 1) % 998244353) := Lib.hid rfl
      rw [HE.out] at HX
      clear HE
      generalize (L[k].toNat : Nat) = bn at *
      generalize sealV n (L.take k) = v at *
      go_wp2
      refine ⟨⟨k + 1, by omega, by rw [HX.out], by go_num, trivial⟩, by simp [intOf]; omega⟩
    · obtain rfl : k = L.length := by omega
      have HX : Hid (sealV n (L.take L.length) = sealV n L) := Lib.hid (by rw [List.take_length])
      go_wp2
      go_ret
      exact ⟨by rw [← HX.out]; rfl, HB.out⟩
end Go.Proofs.YtmdbpkomanhpoaaGreatDoor

namespace Go.Proofs.YtmdbpkomanhpoaaGreatDoor
open Go.RowKit Go.Lib

attribute [local go_sem] Oper.semAt_some

/-- Two blocks lie as they lay. -/
def KN2 (a b : Nat) (W W' : World) : Prop := W'.heap[a]? = W.heap[a]? ∧ W'.heap[b]? = W.heap[b]?
theorem KN2.refl (a b : Nat) (W : World) : KN2 a b W W := ⟨rfl, rfl⟩
theorem KN2.trans {a b : Nat} {X Y Z : World} (h : KN2 a b X Y) (k : KN2 a b Y Z) : KN2 a b X Z := ⟨k.1.trans h.1, k.2.trans h.2⟩
/-- The first k numbers below m. -/
def finTo (m k : Nat) : List (Fin m) := (List.finRange m).take k
theorem finTo_succ {m k : Nat} (h : k < m) : finTo m (k + 1) = finTo m k ++ [⟨k, h⟩] := by
  unfold finTo
  rw [List.take_add_one, List.getElem?_eq_getElem (by simpa using h)]
  simp
theorem finTo_length {m k : Nat} (h : k ≤ m) : (finTo m k).length = k := by
  unfold finTo; rw [List.length_take, List.length_finRange]; omega
theorem finTo_all (m : Nat) : finTo m m = List.finRange m := by unfold finTo; exact List.take_of_length_le (by simp)
theorem finTo_prefix (m k : Nat) : finTo m k <+: List.finRange m := List.take_prefix _ _

/-- The seal of the first k entries. -/
def sealL (log : List (ByteArray × ByteArray)) (k : Nat) : Int := (log.take k).foldl (fun n x => sealV n (nextB x.1 x.2)) 1
theorem sealL_succ (log : List (ByteArray × ByteArray)) {k : Nat} (h : k < log.length) : sealL log (k + 1) = sealV (sealL log k) (nextB log[k].1 log[k].2) := by
  unfold sealL
  rw [List.take_succ_eq_append_getElem h, List.foldl_append]
  rfl
theorem sealL_in (log : List (ByteArray × ByteArray)) : ∀ k, k ≤ log.length → 0 ≤ sealL log k ∧ sealL log k < 998244353
  | 0, _ => by unfold sealL; rw [List.take_zero]; decide
  | k + 1, h => by rw [sealL_succ log (by omega)]; exact sealV_in (sealL_in log k (by omega)) _
/-- What is yielded. -/
abbrev sealA (log : List (ByteArray × ByteArray)) (k : Fin log.length) : Array Value := #[.int .i64 (sealL log (k.1 + 1)), .agg #[.string log[k.1].1, .string log[k.1].2]]
/-- A log in a block that lies as it lay. -/
def LogAt (log : List (ByteArray × ByteArray)) (gL o : Nat) (O : Option Obj) : Prop := ∀ W : World, W.heap[gL]? = O → ∀ (k : Nat) (h : k < log.length), W.cell? ⟨gL, o + k * 2, none⟩ = some (.string log[k].1) ∧ W.cell? ⟨gL, o + k * 2 + 1, none⟩ = some (.string log[k].2)
theorem sealed_any (A : Option Addr) (m c : Nat) (w : World) : Calls Tryz.prog 37 #[.slice A m c] w fun e w' => e = .returned (.func (.func 56) #[] #[.pointer (some ⟨w.heap.size, 0, none⟩)]) ∧ w' = w.alloc (.cells #[.slice A m c] 34) := by
  go_enter Tryz.func37, Tryz.ntmps37
  go_wp2
  go_ret
  exact ⟨rfl, rfl⟩
set_option maxRecDepth 100000 in
set_option maxHeartbeats 4000000 in
theorem sealed1_in (n : Nat) (hn : 1 ≤ n) (l Bs gL o cap : Nat) (A : Option Addr) (log : List (ByteArray × ByteArray)) (hA : 0 < log.length → A = some ⟨gL, o, none⟩) (O : Option Obj) (hO : LogAt log gL o O) (hm : log.length ≤ 100000) (hsz : ∀ x ∈ log, x.1.size ≤ 1000000 ∧ x.2.size ≤ 1000000) (J Jx : List (Fin log.length) → World → Prop)
    (hY : ∀ pre (k : Fin log.length) W, J pre W → pre.length < log.length → YieldAt Fence.wide (n - 1) Tryz.prog l (sealA log k) W fun e W' =>
      (e = .returned (.bool true) ∧ J (pre ++ [k]) W' ∧ KN2 Bs gL W W') ∨ (e = .returned (.bool false) ∧ Jx (pre ++ [k]) W'))
    (hJ : ∀ pre X Y, J pre X → Gr X Y → J pre Y)
    (W : World) (hbs : Boxed W Bs 34 (.slice A log.length cap)) (hgL : W.heap[gL]? = O) (hlt : gL < W.heap.size) (h0 : J [] W) :
    CallsIn Fence.wide n Tryz.prog 56 #[.func (.yield l) #[] #[], .pointer (some ⟨Bs, 0, none⟩)] W fun e W' => (∃ v, e = .returned v) ∧
      (J (List.finRange log.length) W' ∨ ∃ pre, pre <+: List.finRange log.length ∧ Jx pre W') := by
  refine callsIn_of_wp Tryz.func56 rfl trivial ?_ rfl
  simp only [Tryz.ntmps56, List.size_toArray, List.length_cons, List.length_nil, Nat.reduceAdd, Nat.reduceSub, Array.replicate_succ, Array.replicate_zero, List.push_toArray, List.append_toArray, List.nil_append, List.cons_append]
  have b0 : W.cell? ⟨Bs, 0, none⟩ = some (.slice A log.length cap) := Blk.cell hbs 0
  have b1 : Bs < W.heap.size := Blk.lt hbs
  have hHY := Lib.hid hY
  have hHJ := Lib.hid hJ
  have HO := Lib.hid hO
  have HA := Lib.hid hA
  have HSZ := Lib.hid hsz
  have HLS : Hid (∀ k, k ≤ log.length → 0 ≤ sealL log k ∧ sealL log k < 998244353) := Lib.hid (sealL_in log)
  have HSC : Hid (∀ (k : Nat) (h : k < log.length), sealL log (k + 1) = sealV (sealL log k) (nextB log[k].1 log[k].2)) := Lib.hid fun k h => sealL_succ log h
  have HS0 : Hid (sealL log 0 = 1) := Lib.hid rfl
  have HBS := Lib.hid hbs
  clear hY hJ hO hsz hbs hA
  gi_wp2
  clear b0 b1
  gi_loopw [3, 8] (fun s3 s8 wr => ∃ (k : Nat), s3 = .int .i64 (sealL log k) ∧ s8 = .int .i64 (k : Int) ∧ k ≤ log.length ∧ Boxed wr Bs 34 (.slice A log.length cap) ∧ wr.heap[gL]? = O ∧ gL < wr.heap.size ∧ J (finTo log.length k) wr) (fun _ s8 _ => log.length - (RowKit.intOf s8).toNat)
  case atStart => exact ⟨0, by rw [HS0.out], rfl, Nat.zero_le _, HBS.out, hgL, hlt, by simpa [finTo] using h0⟩
  case round =>
    clear h0 hgL hlt HBS
    obtain ⟨k, rfl, rfl, hk, hs, hg, hl, hj⟩ := hrel
    have HS := Lib.hid hs; have HG := Lib.hid hg; have HJ := Lib.hid hj
    clear hs hg hj
    by_cases hlt : k < log.length
    · have hA := HA.out (by omega)
      subst hA
      obtain ⟨c0, c1⟩ := HO.out wr HG.out k hlt
      have HSC1 := Lib.hid (HSC.out k hlt)
      have hsl := HLS.out k hk
      have hxs := HSZ.out _ (List.getElem_mem hlt)
      have HYL : Hid (sealA log ⟨k, hlt⟩ = #[.int .i64 (sealV (sealL log k) (nextB log[k].1 log[k].2)), .agg #[.string log[k].1, .string log[k].2]]) := Lib.hid (by unfold sealA; dsimp only; rw [HSC.out k hlt])
      have hli : (k : Int) < (log.length : Int) := by omega
      obtain ⟨x, hx⟩ : ∃ x, log[k] = x := ⟨_, rfl⟩
      rw [hx] at c0 c1 HSC1 hxs HYL
      clear hx
      obtain ⟨xb, xt⟩ := x
      dsimp only at c0 c1 HSC1 hxs HYL
      have bx := Blk.new wr 36 #[.string xb, .string xt]
      have hal : Gr wr (wr.alloc (.cells #[.string xb, .string xt] 36)) := (Below.refl _ _).alloc (Nat.le_refl _) _
      have HLK := Lib.hid hlt
      gi_wp2_with fail
      refine ⟨trivial, ?_⟩
      refine (callsIn_wide.2 (next_any (sealL log k) xb xt _ hsl hxs.1 hxs.2)).mono ?_
      rintro e W2 ⟨rfl, hB2⟩
      have hgr : Gr wr W2 := Below.trans hal (Below.mono hB2 hal.size)
      have bx2 := bx.below hB2 bx.lt
      have hj2 := hHJ.out _ _ _ HJ.out hgr
      have hs2 : Boxed W2 Bs 34 (.slice (some ⟨gL, o, none⟩) log.length cap) := (hgr.block Bs (Blk.lt HS.out)).trans HS.out
      have hg2 : W2.heap[gL]? = O := (hgr.block gL hl).trans HG.out
      have hl2 : gL < W2.heap.size := Nat.lt_of_lt_of_le hl hgr.size
      obtain ⟨fn, tmps, assign, body, hy, hR⟩ := hHY.out (finTo log.length k) ⟨k, hlt⟩ W2 hj2 (by rw [finTo_length hk]; exact hlt)
      rw [HYL.out] at hy
      have d0 := bx2.cell 0
      have d1 := bx2.cell 1
      have dl := bx2.lt
      have HS2 := Lib.hid hs2; have HG2 := Lib.hid hg2
      clear hs2 hg2 hj2 hgr hB2 hal bx bx2 c0 c1 HS HG HJ hl hsl hxs
      generalize wr.heap.size = g5 at *
      gi_wp2
      refine hR.mono ?_
      rintro e W3 (⟨rfl, hJ3, hk3⟩ | ⟨rfl, hJx3⟩)
      · have HS3 : Hid (Boxed W3 Bs 34 (.slice (some ⟨gL, o, none⟩) log.length cap)) := Lib.hid (hk3.1.trans HS2.out)
        have HG3 : Hid (W3.heap[gL]? = O) := Lib.hid (hk3.2.trans HG2.out)
        have hl3 : gL < W3.heap.size := by
          have h1 := hk3.2
          rw [Array.getElem?_eq_getElem hl2] at h1
          exact (Array.getElem?_eq_some_iff.1 h1).1
        have HJ3 := Lib.hid hJ3
        clear hk3 hR hy d0 d1 dl hJ3
        gi_wp2
        go_roundw
        case rel => exact ⟨k + 1, by rw [HSC1.out], by congr 1, by omega, HS3.out, HG3.out, hl3, by rw [finTo_succ HLK.out]; exact HJ3.out⟩
        case measure => simp only [RowKit.intOf]; omega
      · have hpre : finTo log.length k ++ [⟨k, HLK.out⟩] <+: List.finRange log.length := by rw [← finTo_succ HLK.out]; exact finTo_prefix _ _
        gi_wp2
        refine bodyPost_ret (results_none rfl _ _ _) rfl ?_
        exact ⟨⟨_, rfl⟩, .inr ⟨_, hpre, hJx3⟩⟩
    · obtain rfl : k = log.length := by omega
      gi_wp2
      go_end0
      exact ⟨⟨_, rfl⟩, .inl (by rw [← finTo_all]; exact HJ.out)⟩
theorem sealed_stops (n : Nat) (hn : 1 ≤ n) (Bs gL o cap : Nat) (A : Option Addr) (log : List (ByteArray × ByteArray)) (hA : 0 < log.length → A = some ⟨gL, o, none⟩) (O : Option Obj) (hO : LogAt log gL o O) (hm : log.length ≤ 100000) (hsz : ∀ x ∈ log, x.1.size ≤ 1000000 ∧ x.2.size ≤ 1000000) (w : World) (hbs : Boxed w Bs 34 (.slice A log.length cap)) (hgL : w.heap[gL]? = O) (hlt : gL < w.heap.size) :
    SeqStopsK Fence.wide n Tryz.prog 56 #[.pointer (some ⟨Bs, 0, none⟩)] (fun k => sealA log k) (KN2 Bs gL) (fun ys => ys = List.finRange log.length) (fun pre => pre <+: List.finRange log.length) log.length w := fun l J Jx W hW hJ _ hY h0 => by
  refine (sealed1_in n hn l Bs gL o cap A log hA O hO hm hsz J Jx hY (fun pre X Y hj hg => hJ pre X Y none hj ⟨hg.os, hg.tape, hg.output, hg.size, fun b hb _ => hg.block b hb⟩ (fun r e => by cases e)) W ((hW.block Bs (Blk.lt hbs)).trans hbs) ((hW.block gL hlt).trans hgL) (Nat.lt_of_lt_of_le hlt hW.size) h0).mono ?_
  rintro e W' ⟨he, hj | ⟨pre, h1, hj⟩⟩
  · exact ⟨he, .inl ⟨_, rfl, hj⟩⟩
  · exact ⟨he, .inr ⟨pre, h1, hj⟩⟩
/-- A row read in a block that lies as it lay. -/
theorem logAt_row {w : World} {C : Nat} {g o : Nat} {log : List (ByteArray × ByteArray)} (h : Row w C 2 (some ⟨g, o, none⟩) log.length (rowsC enF log)) : LogAt log g o w.heap[g]? := fun W hW k hk => by
  obtain ⟨g', o', e, hg, c0, c1⟩ := h.at2 enF_len hk rfl
  cases e
  have up : ∀ i, W.cell? ⟨g, i, none⟩ = w.cell? ⟨g, i, none⟩ := fun i => by unfold World.cell?; rw [hW]
  exact ⟨(up _).trans c0, (up _).trans c1⟩
end Go.Proofs.YtmdbpkomanhpoaaGreatDoor

namespace Go.Proofs
open Go.Shelf
def Tryz.lays150_ren : Go.Shelf.Ren := ⟨fun | 150 => 54 | 153 => 75 | 152 => 110 | 226 => 111 | 227 => 112 | 228 => 113 | 137 => 148 | 119 => 149 | 224 => 150 | 225 => 151 | 217 => 152 | 266 => 180 | n => n, fun | 9 => 9 | 4 => 4 | 3 => 3 | 5 => 5 | 21 => 21 | 117 => 193 | 116 => 192 | 0 => 0 | 46 => 233 | 124 => 234 | n => n, fun | n => n⟩
theorem Tryz.lays150 : Go.Proofs.Lays.n150 Tryz.prog Tryz.lays150_ren := {
  mixed := by kernel_rfl
  f119 := Tryz.func149.trans (congrArg some (by kernel_rfl))
  f137 := Tryz.func148.trans (congrArg some (by kernel_rfl))
  f150 := Tryz.func54.trans (congrArg some (by kernel_rfl))
  f152 := Tryz.func110.trans (congrArg some (by kernel_rfl))
  f153 := Tryz.func75.trans (congrArg some (by kernel_rfl))
  f217 := Tryz.func152.trans (congrArg some (by kernel_rfl))
  f224 := Tryz.func150.trans (congrArg some (by kernel_rfl))
  f225 := Tryz.func151.trans (congrArg some (by kernel_rfl))
  f226 := Tryz.func111.trans (congrArg some (by kernel_rfl))
  f227 := Tryz.func112.trans (congrArg some (by kernel_rfl))
  f228 := Tryz.func113.trans (congrArg some (by kernel_rfl))
  f266 := Tryz.func180.trans (congrArg some (by kernel_rfl))
  t0 := Tryz.underlying0
  a0 := Tryz.isAgg0
  z0 := Tryz.sizeOf0
  v0 := Tryz.zeroValue0
  t3 := Tryz.underlying3
  a3 := Tryz.isAgg3
  z3 := Tryz.sizeOf3
  v3 := Tryz.zeroValue3
  t4 := Tryz.underlying4
  a4 := Tryz.isAgg4
  z4 := Tryz.sizeOf4
  v4 := Tryz.zeroValue4
  t5 := Tryz.underlying5
  a5 := Tryz.isAgg5
  z5 := Tryz.sizeOf5
  v5 := Tryz.zeroValue5
  t9 := Tryz.underlying9
  a9 := Tryz.isAgg9
  z9 := Tryz.sizeOf9
  v9 := Tryz.zeroValue9
  t21 := Tryz.underlying21
  a21 := Tryz.isAgg21
  z21 := Tryz.sizeOf21
  v21 := Tryz.zeroValue21
  t46 := Tryz.underlying233
  a46 := Tryz.isAgg233
  z46 := Tryz.sizeOf233
  v46 := Tryz.zeroValue233
  t116 := Tryz.underlying192
  a116 := Tryz.isAgg192
  z116 := Tryz.sizeOf192
  t117 := Tryz.underlying193
  a117 := Tryz.isAgg193
  z117 := Tryz.sizeOf193
  v117 := Tryz.zeroValue193
  t124 := Tryz.underlying234
  a124 := Tryz.isAgg234
  z124 := Tryz.sizeOf234
  v124 := Tryz.zeroValue234 }
open Go.RowKit Go.Lib in
theorem Tryz.strings_ContainsAny_laid (s chars : ByteArray) (w : World) (hs : s.size < 4294967281) (hcs : chars.size < 4294967281) (has : ∀ (j : Nat) b, s.data.toList[j]? = some b → b.toNat < 128) (hac : ∀ (j : Nat) b, chars.data.toList[j]? = some b → b.toNat < 128) :
    Calls Tryz.prog 54 #[.string s, .string chars] w fun e w' => e = .returned (.bool (Lib.containsAny s.data.toList chars.data.toList)) ∧ Below w.heap.size w w' := Any.strings_ContainsAny_laid Tryz.lays150 (by kernel_rfl) s chars w hs hcs has hac
end Go.Proofs

namespace Go.Proofs.YtmdbpkomanhpoaaGreatDoor
open Go.RowKit Go.Lib

/-- Has a text a blank or a line's end? -/
def anyB (t : ByteArray) : Bool := t.data.toList.any fun b => decide (b = 32) || decide (b = 10)
/-- The error of an entry that is written. -/
def entE1 (x : ByteArray × ByteArray) : Int := if (x.1.toList == []) = true then 3 else if anyB x.1 = true then 3 else if decide (10 ∈ x.2.data.toList) = true then 3 else if 200 < x.2.size then 8 else 0
def entL : List (ByteArray × ByteArray) → Int
  | [] => 0
  | x :: l => if entE1 x = 0 then entL l else entE1 x
def entE (log : List (ByteArray × ByteArray)) : Int := if 60 < log.length then 8 else entL log
theorem entL_drop {log : List (ByteArray × ByteArray)} {k : Nat} (h : k < log.length) : entL (log.drop k) = if entE1 log[k] = 0 then entL (log.drop (k + 1)) else entE1 log[k] := by
  rw [List.drop_eq_getElem_cons h]
  rfl
/-- strings.ContainsAny of a text and " \n" tells anyB. -/
def CaOk (t : ByteArray) : Prop := ∀ W, Calls Tryz.prog 54 #[.string t, .string ⟨#[32, 10]⟩] W fun e w' => e = .returned (.bool (anyB t)) ∧ Below W.heap.size W w'
set_option maxRecDepth 100000 in
set_option maxHeartbeats 4000000 in
theorem entriesErr_any (log : List (ByteArray × ByteArray)) (A : Option Addr) (c C : Nat) (w : World) (hl : LogOk log A c C w) (hCA : ∀ x ∈ log, CaOk x.1) (hL : LibW w) :
    Calls Tryz.prog 36 #[.slice A log.length c] w fun e w' => e = .returned (.int .i64 (entE log)) ∧ Below w.heap.size w w' := by
  have HE : Hid (entE log = if 60 < log.length then 8 else entL log) := Lib.hid rfl
  have HLO := Lib.hid hl; have HCA := Lib.hid hCA; have HL := Lib.hid hL
  have hcap := hl.len
  clear hl hCA hL
  generalize entE log = RV at *
  by_cases h60 : 60 < log.length
  · replace HE := Lib.hid (HE.out.trans (if_pos h60))
    have h1 : (60 : Int) < (log.length : Int) := by omega
    clear h60
    go_enter Tryz.func36, Tryz.ntmps36
    go_wp2
    go_ret
    exact ⟨by rw [HE.out]; rfl, Below.refl _ _⟩
  replace HE := Lib.hid (HE.out.trans (if_neg h60))
  have h1 : ¬ ((60 : Int) < (log.length : Int)) := by omega
  have hlen : log.length ≤ 60 := by omega
  clear h60 hcap
  go_enter Tryz.func36, Tryz.ntmps36
  go_wp2
  clear h1
  go_loopw [10] (fun i wr => ∃ k : Nat, k ≤ log.length ∧ i = .int .i64 k ∧ Hid (RV = entL (log.drop k)) ∧ Below w.heap.size w wr) (fun i _ => log.length - (intOf i).toNat)
  case atStart => exact ⟨0, Nat.zero_le _, rfl, Lib.hid (by rw [HE.out]; rfl), Below.refl _ _⟩
  case round =>
    obtain ⟨k, hk, rfl, HR, hBr⟩ := hrel
    by_cases hlt : k < log.length
    · obtain ⟨g, o, hA, hg, c0, c1⟩ := (HLO.out.below hBr HLO.out.base).row.at2 enF_len hlt rfl
      subst hA
      replace HR := Lib.hid (HR.out.trans (entL_drop hlt))
      have HSZ := Lib.hid (HLO.out.sz _ (List.getElem_mem hlt))
      have HCX := Lib.hid (HCA.out _ (List.getElem_mem hlt))
      have hgr : g < wr.heap.size := Nat.lt_of_lt_of_le hg (Nat.le_trans HLO.out.base hBr.size)
      generalize log[k] = x at *
      obtain ⟨xb, xt⟩ := x
      dsimp only at c0 c1 HR HSZ HCX
      have HE1 : Hid (entE1 (xb, xt) = if (xb.toList == []) = true then 3 else if anyB xb = true then 3 else if decide (10 ∈ xt.data.toList) = true then 3 else if 200 < xt.size then 8 else 0) := Lib.hid rfl
      generalize entE1 (xb, xt) = E1 at *
      have hal : Gr wr (wr.alloc (.cells #[.string xb, .string xt] 36)) := (Below.refl _ _).alloc (Nat.le_refl _) _
      have hBa := hBr.trans (hal.mono hBr.size)
      have be := Blk.new wr 36 #[.string xb, .string xt]
      cases q1 : xb.toList == []
      rotate_left
      · replace HE1 := Lib.hid (HE1.out.trans (if_pos q1))
        replace HR := Lib.hid (HR.out.trans (if_neg (by rw [HE1.out]; decide)))
        go_wp2
        go_ret
        exact ⟨by rw [HR.out, HE1.out]; rfl, hBa⟩
      replace HE1 := Lib.hid (HE1.out.trans (if_neg (by simp only [q1]; decide)))
      obtain ⟨ab, hab⟩ : ∃ ab, anyB xb = ab := ⟨_, rfl⟩
      have HC2 := Lib.hid (HCX.out (wr.alloc (.cells #[.string xb, .string xt] 36)))
      rw [hab] at HE1 HC2
      clear hab HCX
      go_wp2_with fail
      refine HC2.out.mono ?_
      rintro e w3 ⟨rfl, hB3⟩
      have be3 := be.below hB3 be.lt
      have hB4 : Below w.heap.size w w3 := hBa.trans (hB3.mono hBa.size)
      have d0 := be3.cell 0
      have d1 := be3.cell 1
      have dl := be3.lt
      clear hB3 hBa be hal be3 c0 c1 HC2
      generalize wr.heap.size = g4 at *
      cases ab
      rotate_left
      · replace HE1 := Lib.hid (HE1.out.trans (if_pos rfl))
        replace HR := Lib.hid (HR.out.trans (if_neg (by rw [HE1.out]; decide)))
        go_wp2
        go_ret
        exact ⟨by rw [HR.out, HE1.out]; rfl, hB4⟩
      replace HE1 := Lib.hid (HE1.out.trans (if_neg (by simp)))
      have HC3 := Lib.hid (contains_one_any xt 10 HSZ.out w3 (HL.out.below hB4 (Nat.le_refl _)))
      obtain ⟨ct, hct⟩ : ∃ ct, decide (10 ∈ xt.data.toList) = ct := ⟨_, rfl⟩
      rw [hct] at HE1 HC3
      clear hct
      cases ct
      rotate_left
      · replace HE1 := Lib.hid (HE1.out.trans (if_pos rfl))
        replace HR := Lib.hid (HR.out.trans (if_neg (by rw [HE1.out]; decide)))
        go_wp2_with (go_at_call 55; refine HC3.out.mono ?_; rintro e w1 ⟨rfl, rfl⟩)
        go_ret
        exact ⟨by rw [HR.out, HE1.out]; rfl, hB4⟩
      replace HE1 := Lib.hid (HE1.out.trans (if_neg (by simp)))
      by_cases h2 : 200 < xt.size
      · replace HE1 := Lib.hid (HE1.out.trans (if_pos h2))
        replace HR := Lib.hid (HR.out.trans (if_neg (by rw [HE1.out]; decide)))
        have h3 : (200 : Int) < (xt.size : Int) := by omega
        clear h2
        go_wp2_with (go_at_call 55; refine HC3.out.mono ?_; rintro e w1 ⟨rfl, rfl⟩)
        go_ret
        exact ⟨by rw [HR.out, HE1.out]; rfl, hB4⟩
      · replace HE1 := Lib.hid (HE1.out.trans (if_neg h2))
        replace HR := Lib.hid (HR.out.trans (if_pos HE1.out))
        have h3 : ¬ ((200 : Int) < (xt.size : Int)) := by omega
        clear h2
        go_wp2_with (go_at_call 55; refine HC3.out.mono ?_; rintro e w1 ⟨rfl, rfl⟩)
        refine ⟨⟨k + 1, by omega, by go_num, HR, hB4⟩, by simp [intOf]; omega⟩
    · obtain rfl : k = log.length := by omega
      have HX : Hid (RV = 0) := Lib.hid (by rw [HR.out, List.drop_length]; rfl)
      go_wp2
      go_ret
      exact ⟨by rw [HX.out]; rfl, hBr⟩
end Go.Proofs.YtmdbpkomanhpoaaGreatDoor

namespace Go.Proofs.YtmdbpkomanhpoaaGreatDoor
open Go.RowKit Go.Shelf

/-- The marks of blocks. -/
def marksOf (Ds : List Nat) : List Deferred := Ds.map fun D => { target := .collected D, args := #[] }
/-- Blocks for deferred calls that hold none, from n₀ on. -/
structure Marks (n₀ : Nat) (Ds : List Nat) (w : World) : Prop where
  nodup : Ds.Nodup
  from_ : ∀ D ∈ Ds, n₀ ≤ D
  hold : ∀ D ∈ Ds, w.heap[D]? = some (.deferred (some []))
theorem Marks.nil (n₀ : Nat) (w : World) : Marks n₀ [] w := ⟨List.nodup_nil, (fun _ h => by cases h), (fun _ h => by cases h)⟩
theorem Marks.lt {n₀ : Nat} {Ds : List Nat} {w : World} (h : Marks n₀ Ds w) {D : Nat} (hD : D ∈ Ds) : D < w.heap.size := (Array.getElem?_eq_some_iff.1 (h.hold D hD)).1
theorem Marks.keep {n₀ : Nat} {Ds : List Nat} {w w' : World} (h : Marks n₀ Ds w) (hk : ∀ D, D ∈ Ds → w'.heap[D]? = w.heap[D]?) : Marks n₀ Ds w' :=
  ⟨h.nodup, h.from_, fun D hD => (hk D hD).trans (h.hold D hD)⟩
theorem Marks.gr {n₀ : Nat} {Ds : List Nat} {w w' : World} (h : Marks n₀ Ds w) (hb : Gr w w') : Marks n₀ Ds w' := h.keep fun D hD => hb.block D (h.lt hD)
theorem Marks.grown {n₀ : Nat} {Ds : List Nat} {w w' : World} {row : Option Nat} (h : Marks n₀ Ds w) (hb : w.grownBy w' row) (hr : ∀ r o, row = some r → w.heap[r]? = some o → ∃ o', w.heap[r]? = some o' ∧ o' ≠ .deferred (some [])) : Marks n₀ Ds w' :=
  h.keep fun D hD => hb.block D (h.lt hD) (fun e => by
    obtain ⟨o', h1, h2⟩ := hr D _ e.symm (h.hold D hD)
    rw [h.hold D hD] at h1
    exact h2 (Option.some.inj h1).symm)
theorem Marks.alloc {n₀ : Nat} {Ds : List Nat} {w : World} (h : Marks n₀ Ds w) (o : Obj) : Marks n₀ Ds (w.alloc o) := h.keep fun D hD => Below.heap_alloc w o D (h.lt hD)
theorem Marks.setCell {n₀ : Nat} {Ds : List Nat} {w : World} (h : Marks n₀ Ds w) {g o : Nat} {cs : Array Value} {t : TypeId} (hb : Blk w g t cs) (u : Value) : Marks n₀ Ds (w.setCell ⟨g, o, none⟩ u) :=
  h.keep fun D hD => Below.heap_setCell w _ u D (fun e => by
    have h1 := h.hold D hD
    rw [e] at h1
    have h2 : w.heap[g]? = some (.cells cs t (0, 0)) := hb
    rw [h2] at h1; cases h1)
theorem Marks.cons {n₀ : Nat} {Ds : List Nat} {w : World} (h : Marks n₀ Ds w) {D B : Nat} (hlt : ∀ D' ∈ Ds, D' < B) (hB : B ≤ D) (hn : n₀ ≤ D) (hD : w.heap[D]? = some (.deferred (some []))) : Marks n₀ (D :: Ds) w :=
  ⟨List.nodup_cons.2 ⟨fun hm => by have := hlt D hm; omega, h.nodup⟩, fun X hX => by
    rcases List.mem_cons.1 hX with rfl | hX
    · exact hn
    · exact h.from_ X hX, fun X hX => by
    rcases List.mem_cons.1 hX with rfl | hX
    · exact hD
    · exact h.hold X hX⟩

/-- Nothing has turned but that blocks for deferred calls, from n₀ on, are shut. -/
structure Shut (n₀ : Nat) (w w' : World) : Prop where
  below : Below n₀ w w'
  same : ∀ (i : Nat) (o : Obj), w.heap[i]? = some o → o ≠ Obj.deferred (some []) → w'.heap[i]? = some o
theorem Shut.refl (n₀ : Nat) (w : World) : Shut n₀ w w := ⟨Below.refl _ _, fun _ _ h _ => h⟩
theorem Shut.put {n₀ D : Nat} {w w' : World} (h : Shut n₀ (w.putObj D (.deferred none)) w') (hn : n₀ ≤ D) (hD : w.heap[D]? = some (.deferred (some []))) : Shut n₀ w w' := by
  refine ⟨⟨h.below.os, h.below.tape, h.below.output, by have := h.below.size; simpa using this, fun k hk => (h.below.block k hk).trans (World.putObj_heap_other (by omega))⟩, fun i o hi ho => h.same i o ?_ ho⟩
  rw [World.putObj_heap_other (fun e => by rw [e, hD] at hi; exact ho (Option.some.inj hi).symm)]
  exact hi
theorem Shut.blk {n₀ g : Nat} {w w' : World} {t : TypeId} {cs : Array Value} (h : Shut n₀ w w') (hb : Blk w g t cs) : Blk w' g t cs := h.same g _ hb (fun e => by cases e)
theorem Shut.own {n₀ base e size n : Nat} {w w' : World} {v : Value} {xs : List Value} (h : Shut n₀ w w') (ho : w.ownsRow base e size v n xs) : w'.ownsRow base e size v n xs := by
  refine ⟨ho.1, ?_⟩
  rcases ho.2 with h0 | ⟨g, cap, cur, hv, hb, hh, r⟩
  · exact .inl h0
  · exact .inr ⟨g, cap, cur, hv, hb, h.same g _ hh (fun e => by cases e), r⟩

theorem leaves_marks {P : Program} {F : Fence} {n : Nat} {fn : Func} {tmps : Array Value} {R : Ending → World → Prop} {n₀ : Nat} : ∀ (Ds : List Nat) (w : World), Marks n₀ Ds w →
    (∀ w', Shut n₀ w w' → ∃ v, (results fn tmps).run P w' = .ok v w' ∧ R (.returned v) w') → LeavesInM F n P fn tmps R (marksOf Ds) .returning w
  | [], w, _, h => h w (Shut.refl _ _)
  | D :: Ds, w, hM, h => by
    have hD := hM.hold D (by simp)
    have hn := hM.from_ D (by simp)
    refine ⟨by simp, .inl ⟨D, _, rfl, run_takeDeferred hD, ?_⟩⟩
    refine leaves_marks Ds _ ⟨(List.nodup_cons.1 hM.nodup).2, fun X hX => hM.from_ X (by simp [hX]), fun X hX => ?_⟩ (fun w' hs => h w' (hs.put hn hD))
    rw [World.putObj_heap_other (fun e => (List.nodup_cons.1 hM.nodup).1 (by rw [← e]; exact hX))]
    exact hM.hold X (by simp [hX])
theorem ret_marks {P : Program} {F : Fence} {n : Nat} {fn : Func} {tmps : Array Value} {R : Ending → World → Prop} {n₀ : Nat} {Ds : List Nat} {w : World} (hM : Marks n₀ Ds w)
    (h : ∀ w', Shut n₀ w w' → ∃ v, (results fn tmps).run P w' = .ok v w' ∧ R (.returned v) w') : bodyPostM F n P fn R .ret { tmps := tmps, defers := marksOf Ds } w := leaves_marks Ds w hM h
end Go.Proofs.YtmdbpkomanhpoaaGreatDoor

namespace Go.Proofs.YtmdbpkomanhpoaaGreatDoor
open Go.RowKit Go.Lib

attribute [local go_sem] Oper.semAt_some

/-- The seal behind the pieces so far. -/
def lastSeal (log : List (ByteArray × ByteArray)) (pre : List (Fin log.length)) : Int := (pre.getLast?.map fun x => sealL log (x.1 + 1)).getD 1
theorem lastSeal_snoc (log : List (ByteArray × ByteArray)) (pre : List (Fin log.length)) (x : Fin log.length) : lastSeal log (pre ++ [x]) = sealL log (x.1 + 1) := by simp [lastSeal]
theorem lastSeal_all (log : List (ByteArray × ByteArray)) : lastSeal log (List.finRange log.length) = sealL log log.length := by
  unfold lastSeal
  rw [List.getLast?_eq_getElem?]
  rcases Nat.eq_zero_or_pos log.length with h0 | h0
  · rw [List.getElem?_eq_none (by simp; omega), h0]; rfl
  · rw [List.length_finRange, List.getElem?_eq_getElem (by simp; omega)]
    simp only [List.getElem_finRange, Option.map_some, Option.getD_some]
    congr 1
    simp
    omega
/-- What the rounds hold: the seal in its box. -/
def PsI (w5 : World) (b : Nat) (v : Int) (W : World) : Prop := Blk W b 113 #[.int .i64 v] ∧ w5.grownBy W (some b)
theorem PsI.kept {w5 X Y : World} {b : Nat} {v : Int} {row : Option Nat} (h : PsI w5 b v X) (hf : b < w5.heap.size) (hg : X.grownBy Y row) (hr : ∀ r, row = some r → w5.heap.size ≤ r ∧ ∃ o : Obj, X.heap[r]? = some o ∧ o.isCells = false) : PsI w5 b v Y :=
  ⟨(hg.block b h.1.lt (fun e => by have := (hr b e.symm).1; omega)).trans h.1, h.2.andThen hg (fun j e => Or.inl (hr j e).1)⟩
set_option maxRecDepth 100000 in
set_option maxHeartbeats 4000000 in
theorem seal_ok (log : List (ByteArray × ByteArray)) (A : Option Addr) (c C : Nat) (w : World) (hl : LogOk log A c C w) (hCA : ∀ x ∈ log, CaOk x.1) (hL : LibW w) (hsz : ∀ x ∈ log, x.1.size ≤ 1000000) (h0 : entE log = 0) :
    Calls Tryz.prog 17 #[.slice A log.length c] w fun e w' => e = .returned (.tuple #[.int .i64 (sealL log log.length), .int .i64 0]) ∧ Below w.heap.size w w' := by
  have HEN := Lib.hid (entriesErr_any log A c C w hl hCA hL)
  rw [h0] at HEN
  have hlen : log.length ≤ 60 := by
    unfold entE at h0
    split at h0
    · cases h0
    · omega
  have HLO := Lib.hid hl; have HSZ := Lib.hid hsz
  have HS0 : Hid (sealL log 0 = 1) := Lib.hid rfl
  clear hl hCA hL h0 hsz
  refine callsIn_wide.1 (callsIn_of_wp_marks (F := Fence.wide) (n := 5) Tryz.func17 rfl trivial (wpIn_wide.2 ?_) rfl)
  simp only [Tryz.ntmps17, List.size_toArray, List.length_cons, List.length_nil, Nat.reduceAdd, Nat.reduceSub, Array.replicate_succ, Array.replicate_zero, List.push_toArray, List.append_toArray, List.nil_append, List.cons_append]
  go_wp2_with fail
  refine HEN.out.mono ?_
  rintro e w1 ⟨rfl, hB1⟩
  have hB2 : Below w.heap.size w (w1.alloc (.cells #[.int .i64 1] 113)) := hB1.alloc hB1.size _
  have bo := Blk.new w1 113 #[.int .i64 1]
  have hgo : w.heap.size ≤ w1.heap.size := hB1.size
  generalize hW2 : w1.alloc (.cells #[.int .i64 1] 113) = W2 at *
  go_wp2_with fail
  clear hW2
  generalize w1.heap.size = b5 at *
  refine (sealed_any A log.length c W2).mono ?_
  rintro e w5 ⟨rfl, h5⟩
  have hG5 : Gr W2 w5 := by rw [h5]; exact (Below.refl _ _).alloc (Nat.le_refl _) _
  have hbs : Boxed w5 W2.heap.size 34 (.slice A log.length c) := by rw [h5]; exact Blk.new _ _ _
  have bo5 := bo.below hG5 bo.lt
  have hBW : Below w.heap.size w w5 := hB2.trans (hG5.mono hB2.size)
  have hb5 : b5 < W2.heap.size := bo.lt
  clear h5
  generalize W2.heap.size = Bs at *
  have hBs5 : Bs < w5.heap.size := Blk.lt hbs
  obtain ⟨gL, o, hA, hgL, hgb, hO⟩ : ∃ gL o, (0 < log.length → A = some ⟨gL, o, none⟩) ∧ gL < w5.heap.size ∧ gL ≠ b5 ∧ LogAt log gL o w5.heap[gL]? := by
    rcases Nat.eq_zero_or_pos log.length with h0 | h0
    · exact ⟨Bs, 0, fun h => absurd h (by omega), hBs5, by omega, fun W _ k hk => absurd hk (by omega)⟩
    · have hR := (HLO.out.row.below hBW HLO.out.base)
      obtain ⟨g, o, e, hg, _⟩ := hR.2 h0
      subst e
      exact ⟨g, o, fun _ => rfl, Nat.lt_of_lt_of_le hg (Nat.le_trans HLO.out.base hBW.size), by have := HLO.out.base; omega, logAt_row hR⟩
  have hsz2 : ∀ x ∈ log, x.1.size ≤ 1000000 ∧ x.2.size ≤ 1000000 := fun x hx => ⟨HSZ.out x hx, HLO.out.sz x hx⟩
  go_wp2_with fail
  refine wpIn_wide.1 (wpIn_rangeFunc_ownH (n := 5) rfl (by omega) (gf := 56) (lb := #[.pointer (some ⟨Bs, 0, none⟩)]) rfl trivial (enters_of Tryz.func56 (by kernel_rfl) rfl)
    (sealed_stops 4 (by omega) Bs gL o c A log hA _ hO (by omega) hsz2 w5 hbs rfl hgL) KN2.trans (fun W l o o' hl _ _ _ => ⟨World.putObj_heap_other (by omega), World.putObj_heap_other (by omega)⟩) (Below.refl _ _) (fun _ => rfl)
    (fun pre W => PsI w5 b5 (lastSeal log pre) W)
    (fun _ _ _ => False)
    ?hI ?hIx ?h0
    (fun x a' W => a' = ⟨#[.slice A log.length c, undef, .int .i64 0, .int .i64 0, .int .i64 0, .pointer (some ⟨b5, 0, none⟩), .int .i64 (sealL log (x.1 + 1)), .slice A log.length c, .int .i64 0, .int .i64 0, .bool false, undef, .slice A log.length c, .func (.func 56) #[] #[.pointer (some ⟨Bs, 0, none⟩)], .int .i64 (sealL log (x.1 + 1)), .agg #[.string log[x.1].1, .string log[x.1].2], undef, undef], []⟩) ?hAx ?assign ?body ?done ?stop)
  case hI => exact fun pre X Y row h hg hr => h.kept (by omega) hg hr
  case hIx => exact fun _ _ _ _ _ h _ _ => h
  case h0 => exact ⟨bo5, ⟨rfl, rfl, rfl, Nat.le_refl _, fun _ _ _ => rfl⟩⟩
  case hAx => exact fun x a' _ X Y row h _ _ => h
  case assign =>
    intro l pre x W K hIp hK
    dsimp only [List.zip_cons_cons]
    gi_wp2
    exact hK _ _ (KeepsFrom.refl _ _) (KN2.refl _ _ _) hIp rfl
  case body =>
    rintro l pre x a' W hl hrl ⟨h1, h2⟩ rfl hN
    have HX := Lib.hid (lastSeal_snoc log pre x)
    have c0 := h1.cell 0
    have cf := h1.frozen 0
    have lf := h1.lt
    have HP := Lib.hid (And.intro h1 h2)
    clear h1 h2
    generalize sealL log (x.1 + 1) = v at *
    gi_wp2
    refine ⟨(KeepsOthers.setCell _ _ _).from _, ⟨Below.heap_setCell W ⟨b5, 0, none⟩ _ Bs (by simp only; omega), Below.heap_setCell W ⟨b5, 0, none⟩ _ gL (by simp only; omega)⟩, ?_⟩
    dsimp only
    rw [HX.out]
    exact ⟨HP.out.1.set_ 0 (.int .i64 v), HP.out.2.trans ⟨rfl, rfl, rfl, by simp, fun k hk hne => Below.heap_setCell W ⟨b5, 0, none⟩ _ k (fun e => hne (by rw [e]))⟩⟩
  case done =>
    rintro D xs W hD rfl ⟨h1, h2⟩ hdf
    rw [lastSeal_all] at h1
    have HMC : Hid (Marks w.heap.size [D] W) := Lib.hid ((Marks.nil _ _).cons (fun _ h => by cases h) (Nat.zero_le _) (by have := hBW.size; omega) hdf)
    have hBf : Below w.heap.size w W := hBW.grown h2 (Below.size hBW) (fun r e => by have := Option.some.inj e; omega)
    have c0 := h1.cell 0
    have lf := h1.lt
    have HBf := Lib.hid hBf
    clear hdf h2 hBf h1
    dsimp only
    go_wp2_with fail
    refine ret_marks (n₀ := w.heap.size) (Ds := [D]) HMC.out fun w' hs => ⟨.tuple #[.int .i64 (sealL log log.length), .int .i64 0], ?_, rfl, HBf.out.trans hs.below⟩
    simp [results, Tryz.results17, go_sem]
  case stop =>
    rintro D c pre W hD hpre h hdf
    exact h.elim
end Go.Proofs.YtmdbpkomanhpoaaGreatDoor
