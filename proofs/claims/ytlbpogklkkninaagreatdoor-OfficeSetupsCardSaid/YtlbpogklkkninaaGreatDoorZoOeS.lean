/- The seal behind one more entry (seal.next). Entries with their seals (office.sealed): the iterator. -/
import Derived.Lib.ConvBytes
import Derived.RangeFuncBox
import Derived.RangeFuncLeaves
import Derived.RangeFuncNested
import Derived.Shelf.Abstract
import Derived.WalkKit
import Derived.OwnWalkIn
import Derived.TacticsInMore
import Derived.LoopNIn
import Derived.LoopIn
import Derived.OrdersIn
import Derived.TacticsIn
import Derived.Test.YtlbpogklkkninaaGreatDoorZoOeO
import Derived.Test.YtlbpogklkkninaaGreatDoorZoRgW
namespace Go.Proofs.YtlbpogklkkninaaGreatDoor
open Go.RowKit Go.Lib

def sealStep (n : Int) (b : UInt8) : Int := (257 * n + b.toNat + 1) % 998244353
/-- The seal behind some bytes. -/
def sealV (n : Int) (l : List UInt8) : Int := l.foldl sealStep n
/-- The bytes of an entry. -/
def nextB (bb t : ByteArray) : List UInt8 := bb.data.toList ++ [10] ++ t.data.toList ++ [10]
theorem sealV_in {n : Int} (h : 0 ≤ n ∧ n < 998244353) : ∀ (l : List UInt8), 0 ≤ sealV n l ∧ sealV n l < 998244353 := by
  intro l
  induction l generalizing n with
  | nil => exact h
  | cons b l ih => exact ih ⟨Int.emod_nonneg _ (by decide), Int.emod_lt_of_pos _ (by decide)⟩
theorem sealV_snoc (n : Int) (l : List UInt8) {k : Nat} (h : k < l.length) : sealV n (l.take (k + 1)) = sealStep (sealV n (l.take k)) l[k] := by
  unfold sealV
  rw [List.take_succ_eq_append_getElem h, List.foldl_append]
  rfl
set_option maxRecDepth 100000 in
set_option maxHeartbeats 4000000 in
theorem next_any (n : Int) (bb t : ByteArray) (w : World) (hn : 0 ≤ n ∧ n < 998244353) (hb : bb.size ≤ 1000000) (ht : t.size ≤ 1000000) :
    Calls Tryz.prog 67 #[.int .i64 n, .agg #[.string bb, .string t]] w fun e w' => e = .returned (.int .i64 (sealV n (nextB bb t))) ∧ Below w.heap.size w w' := by
  obtain ⟨S, hS⟩ : ∃ S, bb ++ ⟨#[10]⟩ ++ t ++ ⟨#[10]⟩ = S := ⟨_, rfl⟩
  have HSL : Hid (nextB bb t = S.data.toList) := Lib.hid (by rw [← hS]; simp [nextB, ByteArray.data_append])
  have hsz : S.size ≤ 2000002 := by
    rw [← hS]
    simp only [ByteArray.size_append]
    have : (⟨#[10]⟩ : ByteArray).size = 1 := rfl
    omega
  have hcv := fun w => Lib.run_convert_string_bytes (P := Tryz.prog) w 9 80 5 S Tryz.underlying9 Tryz.underlying80 Tryz.underlying5
  have bo := Blk.new w 49 #[.string bb, .string t]
  have d0 := bo.cell 0
  have d1 := bo.cell 1
  have HB : Hid (Below w.heap.size w (bytesWorld (w.alloc (.cells #[.string bb, .string t] 49)) 5 S)) := Lib.hid (((Below.refl _ _).alloc (Nat.le_refl _) _).trans ((bytesWorld_below _ _ _).mono (by simp)))
  have HC : Hid (∀ (k : Nat) (h : k < S.data.toList.length), (bytesWorld (w.alloc (.cells #[.string bb, .string t] 49)) 5 S).cell? ⟨w.heap.size + 1, k, none⟩ = some (.int .u8 (S.data.toList[k].toNat : Nat))) := Lib.hid fun k h => by
    have hk : k < S.size := by rw [Array.length_toList] at h; exact h
    rw [show w.heap.size + 1 = (w.alloc (.cells #[.string bb, .string t] 49)).heap.size from by simp, bytesWorld_cell _ _ _ _ hk, List.getD_eq_getElem?_getD, List.getElem?_eq_getElem h]
    rfl
  have HN := Lib.hid (fun l => sealV_in hn l)
  have HSl : Hid (S.size = S.data.toList.length) := Lib.hid (Array.length_toList).symm
  clear bo
  rw [HSL.out]
  clear HSL
  generalize S.data.toList = L at *
  go_enter Tryz.func67, Tryz.ntmps67
  go_wp2
  clear d0 d1 hcv hS
  rw [HSl.out] at hsz ⊢
  clear HSl
  generalize bytesWorld (w.alloc (.cells #[.string bb, .string t] 49)) 5 S = W2 at *
  go_loopw [0, 16] (fun x i wr => ∃ k : Nat, k ≤ L.length ∧ x = .int .i64 (sealV n (L.take k)) ∧ i = .int .i64 k ∧ wr = W2) (fun _ i _ => L.length - (intOf i).toNat)
  case atStart => exact ⟨0, Nat.zero_le _, rfl, rfl, rfl⟩
  case round =>
    obtain ⟨k, hk, rfl, rfl, rfl⟩ := hrel
    by_cases hlt : k < L.length
    · have c0 := HC.out k hlt
      have HX := Lib.hid (sealV_snoc n L hlt)
      have hin := HN.out (L.take k)
      have hb8 : (L[k].toNat : Int) < 256 := by have := L[k].toNat_lt; omega
      have hb0 : 0 ≤ (L[k].toNat : Int) := by omega
      have HE : Hid (sealStep (sealV n (L.take k)) L[k] = (257 * sealV n (L.take k) + L[k].toNat + 1) % 998244353) := Lib.hid rfl
      rw [HE.out] at HX
      clear HE
      generalize (L[k].toNat : Nat) = bn at *
      generalize sealV n (L.take k) = v at *
      go_wp2
      refine ⟨⟨k + 1, by omega, by rw [HX.out], by go_num, trivial⟩, by simp [intOf]; omega⟩
    · obtain rfl : k = L.length := by omega
      have HX : Hid (sealV n (L.take L.length) = sealV n L) := Lib.hid (by rw [List.take_length])
      go_wp2
      go_ret
      exact ⟨by rw [← HX.out]; rfl, HB.out⟩
end Go.Proofs.YtlbpogklkkninaaGreatDoor

namespace Go.Proofs.YtlbpogklkkninaaGreatDoor
open Go.RowKit Go.Lib

attribute [local go_sem] Oper.semAt_some

/-- Two blocks lie as they lay. -/
def KN2 (a b : Nat) (W W' : World) : Prop := W'.heap[a]? = W.heap[a]? ∧ W'.heap[b]? = W.heap[b]?
theorem KN2.refl (a b : Nat) (W : World) : KN2 a b W W := ⟨rfl, rfl⟩
theorem KN2.trans {a b : Nat} {X Y Z : World} (h : KN2 a b X Y) (k : KN2 a b Y Z) : KN2 a b X Z := ⟨k.1.trans h.1, k.2.trans h.2⟩
/-- The first k numbers below m. -/
def finTo (m k : Nat) : List (Fin m) := (List.finRange m).take k
theorem finTo_succ {m k : Nat} (h : k < m) : finTo m (k + 1) = finTo m k ++ [⟨k, h⟩] := by
  unfold finTo
  rw [List.take_add_one, List.getElem?_eq_getElem (by simpa using h)]
  simp
theorem finTo_length {m k : Nat} (h : k ≤ m) : (finTo m k).length = k := by
  unfold finTo; rw [List.length_take, List.length_finRange]; omega
theorem finTo_all (m : Nat) : finTo m m = List.finRange m := by unfold finTo; exact List.take_of_length_le (by simp)
theorem finTo_prefix (m k : Nat) : finTo m k <+: List.finRange m := List.take_prefix _ _

/-- The seal of the first k entries. -/
def sealL (log : List (ByteArray × ByteArray)) (k : Nat) : Int := (log.take k).foldl (fun n x => sealV n (nextB x.1 x.2)) 1
theorem sealL_succ (log : List (ByteArray × ByteArray)) {k : Nat} (h : k < log.length) : sealL log (k + 1) = sealV (sealL log k) (nextB log[k].1 log[k].2) := by
  unfold sealL
  rw [List.take_succ_eq_append_getElem h, List.foldl_append]
  rfl
theorem sealL_in (log : List (ByteArray × ByteArray)) : ∀ k, k ≤ log.length → 0 ≤ sealL log k ∧ sealL log k < 998244353
  | 0, _ => by unfold sealL; rw [List.take_zero]; decide
  | k + 1, h => by rw [sealL_succ log (by omega)]; exact sealV_in (sealL_in log k (by omega)) _
/-- What is yielded. -/
abbrev sealA (log : List (ByteArray × ByteArray)) (k : Fin log.length) : Array Value := #[.int .i64 (sealL log (k.1 + 1)), .agg #[.string log[k.1].1, .string log[k.1].2]]
/-- A log in a block that lies as it lay. -/
def LogAt (log : List (ByteArray × ByteArray)) (gL o : Nat) (O : Option Obj) : Prop := ∀ W : World, W.heap[gL]? = O → ∀ (k : Nat) (h : k < log.length), W.cell? ⟨gL, o + k * 2, none⟩ = some (.string log[k].1) ∧ W.cell? ⟨gL, o + k * 2 + 1, none⟩ = some (.string log[k].2)
theorem sealed_any (A : Option Addr) (m c : Nat) (w : World) : Calls Tryz.prog 39 #[.slice A m c] w fun e w' => e = .returned (.func (.func 66) #[] #[.pointer (some ⟨w.heap.size, 0, none⟩)]) ∧ w' = w.alloc (.cells #[.slice A m c] 45) := by
  go_enter Tryz.func39, Tryz.ntmps39
  go_wp2
  go_ret
  exact ⟨rfl, rfl⟩
set_option maxRecDepth 100000 in
set_option maxHeartbeats 4000000 in
theorem sealed1_in (n : Nat) (hn : 1 ≤ n) (l Bs gL o cap : Nat) (A : Option Addr) (log : List (ByteArray × ByteArray)) (hA : 0 < log.length → A = some ⟨gL, o, none⟩) (O : Option Obj) (hO : LogAt log gL o O) (hm : log.length ≤ 100000) (hsz : ∀ x ∈ log, x.1.size ≤ 1000000 ∧ x.2.size ≤ 1000000) (J Jx : List (Fin log.length) → World → Prop)
    (hY : ∀ pre (k : Fin log.length) W, J pre W → pre.length < log.length → YieldAt Fence.wide (n - 1) Tryz.prog l (sealA log k) W fun e W' =>
      (e = .returned (.bool true) ∧ J (pre ++ [k]) W' ∧ KN2 Bs gL W W') ∨ (e = .returned (.bool false) ∧ Jx (pre ++ [k]) W'))
    (hJ : ∀ pre X Y, J pre X → Gr X Y → J pre Y)
    (W : World) (hbs : Boxed W Bs 45 (.slice A log.length cap)) (hgL : W.heap[gL]? = O) (hlt : gL < W.heap.size) (h0 : J [] W) :
    CallsIn Fence.wide n Tryz.prog 66 #[.func (.yield l) #[] #[], .pointer (some ⟨Bs, 0, none⟩)] W fun e W' => (∃ v, e = .returned v) ∧
      (J (List.finRange log.length) W' ∨ ∃ pre, pre <+: List.finRange log.length ∧ Jx pre W') := by
  refine callsIn_of_wp Tryz.func66 rfl trivial ?_ rfl
  simp only [Tryz.ntmps66, List.size_toArray, List.length_cons, List.length_nil, Nat.reduceAdd, Nat.reduceSub, Array.replicate_succ, Array.replicate_zero, List.push_toArray, List.append_toArray, List.nil_append, List.cons_append]
  have b0 : W.cell? ⟨Bs, 0, none⟩ = some (.slice A log.length cap) := Blk.cell hbs 0
  have b1 : Bs < W.heap.size := Blk.lt hbs
  have hHY := Lib.hid hY
  have hHJ := Lib.hid hJ
  have HO := Lib.hid hO
  have HA := Lib.hid hA
  have HSZ := Lib.hid hsz
  have HLS : Hid (∀ k, k ≤ log.length → 0 ≤ sealL log k ∧ sealL log k < 998244353) := Lib.hid (sealL_in log)
  have HSC : Hid (∀ (k : Nat) (h : k < log.length), sealL log (k + 1) = sealV (sealL log k) (nextB log[k].1 log[k].2)) := Lib.hid fun k h => sealL_succ log h
  have HS0 : Hid (sealL log 0 = 1) := Lib.hid rfl
  have HBS := Lib.hid hbs
  clear hY hJ hO hsz hbs hA
  gi_wp2
  clear b0 b1
  gi_loopw [3, 8] (fun s3 s8 wr => ∃ (k : Nat), s3 = .int .i64 (sealL log k) ∧ s8 = .int .i64 (k : Int) ∧ k ≤ log.length ∧ Boxed wr Bs 45 (.slice A log.length cap) ∧ wr.heap[gL]? = O ∧ gL < wr.heap.size ∧ J (finTo log.length k) wr) (fun _ s8 _ => log.length - (RowKit.intOf s8).toNat)
  case atStart => exact ⟨0, by rw [HS0.out], rfl, Nat.zero_le _, HBS.out, hgL, hlt, by simpa [finTo] using h0⟩
  case round =>
    clear h0 hgL hlt HBS
    obtain ⟨k, rfl, rfl, hk, hs, hg, hl, hj⟩ := hrel
    have HS := Lib.hid hs; have HG := Lib.hid hg; have HJ := Lib.hid hj
    clear hs hg hj
    by_cases hlt : k < log.length
    · have hA := HA.out (by omega)
      subst hA
      obtain ⟨c0, c1⟩ := HO.out wr HG.out k hlt
      have HSC1 := Lib.hid (HSC.out k hlt)
      have hsl := HLS.out k hk
      have hxs := HSZ.out _ (List.getElem_mem hlt)
      have HYL : Hid (sealA log ⟨k, hlt⟩ = #[.int .i64 (sealV (sealL log k) (nextB log[k].1 log[k].2)), .agg #[.string log[k].1, .string log[k].2]]) := Lib.hid (by unfold sealA; dsimp only; rw [HSC.out k hlt])
      have hli : (k : Int) < (log.length : Int) := by omega
      obtain ⟨x, hx⟩ : ∃ x, log[k] = x := ⟨_, rfl⟩
      rw [hx] at c0 c1 HSC1 hxs HYL
      clear hx
      obtain ⟨xb, xt⟩ := x
      dsimp only at c0 c1 HSC1 hxs HYL
      have bx := Blk.new wr 49 #[.string xb, .string xt]
      have hal : Gr wr (wr.alloc (.cells #[.string xb, .string xt] 49)) := (Below.refl _ _).alloc (Nat.le_refl _) _
      have HLK := Lib.hid hlt
      gi_wp2_with fail
      refine ⟨trivial, ?_⟩
      refine (callsIn_wide.2 (next_any (sealL log k) xb xt _ hsl hxs.1 hxs.2)).mono ?_
      rintro e W2 ⟨rfl, hB2⟩
      have hgr : Gr wr W2 := Below.trans hal (Below.mono hB2 hal.size)
      have bx2 := bx.below hB2 bx.lt
      have hj2 := hHJ.out _ _ _ HJ.out hgr
      have hs2 : Boxed W2 Bs 45 (.slice (some ⟨gL, o, none⟩) log.length cap) := (hgr.block Bs (Blk.lt HS.out)).trans HS.out
      have hg2 : W2.heap[gL]? = O := (hgr.block gL hl).trans HG.out
      have hl2 : gL < W2.heap.size := Nat.lt_of_lt_of_le hl hgr.size
      obtain ⟨fn, tmps, assign, body, hy, hR⟩ := hHY.out (finTo log.length k) ⟨k, hlt⟩ W2 hj2 (by rw [finTo_length hk]; exact hlt)
      rw [HYL.out] at hy
      have d0 := bx2.cell 0
      have d1 := bx2.cell 1
      have dl := bx2.lt
      have HS2 := Lib.hid hs2; have HG2 := Lib.hid hg2
      clear hs2 hg2 hj2 hgr hB2 hal bx bx2 c0 c1 HS HG HJ hl hsl hxs
      generalize wr.heap.size = g5 at *
      gi_wp2
      refine hR.mono ?_
      rintro e W3 (⟨rfl, hJ3, hk3⟩ | ⟨rfl, hJx3⟩)
      · have HS3 : Hid (Boxed W3 Bs 45 (.slice (some ⟨gL, o, none⟩) log.length cap)) := Lib.hid (hk3.1.trans HS2.out)
        have HG3 : Hid (W3.heap[gL]? = O) := Lib.hid (hk3.2.trans HG2.out)
        have hl3 : gL < W3.heap.size := by
          have h1 := hk3.2
          rw [Array.getElem?_eq_getElem hl2] at h1
          exact (Array.getElem?_eq_some_iff.1 h1).1
        have HJ3 := Lib.hid hJ3
        clear hk3 hR hy d0 d1 dl hJ3
        gi_wp2
        go_roundw
        case rel => exact ⟨k + 1, by rw [HSC1.out], by congr 1, by omega, HS3.out, HG3.out, hl3, by rw [finTo_succ HLK.out]; exact HJ3.out⟩
        case measure => simp only [RowKit.intOf]; omega
      · have hpre : finTo log.length k ++ [⟨k, HLK.out⟩] <+: List.finRange log.length := by rw [← finTo_succ HLK.out]; exact finTo_prefix _ _
        gi_wp2
        refine bodyPost_ret (results_none rfl _ _ _) rfl ?_
        exact ⟨⟨_, rfl⟩, .inr ⟨_, hpre, hJx3⟩⟩
    · obtain rfl : k = log.length := by omega
      gi_wp2
      go_end0
      exact ⟨⟨_, rfl⟩, .inl (by rw [← finTo_all]; exact HJ.out)⟩
theorem sealed_stops (n : Nat) (hn : 1 ≤ n) (Bs gL o cap : Nat) (A : Option Addr) (log : List (ByteArray × ByteArray)) (hA : 0 < log.length → A = some ⟨gL, o, none⟩) (O : Option Obj) (hO : LogAt log gL o O) (hm : log.length ≤ 100000) (hsz : ∀ x ∈ log, x.1.size ≤ 1000000 ∧ x.2.size ≤ 1000000) (w : World) (hbs : Boxed w Bs 45 (.slice A log.length cap)) (hgL : w.heap[gL]? = O) (hlt : gL < w.heap.size) :
    SeqStopsK Fence.wide n Tryz.prog 66 #[.pointer (some ⟨Bs, 0, none⟩)] (fun k => sealA log k) (KN2 Bs gL) (fun ys => ys = List.finRange log.length) (fun pre => pre <+: List.finRange log.length) log.length w := fun l J Jx W hW hJ _ hY h0 => by
  refine (sealed1_in n hn l Bs gL o cap A log hA O hO hm hsz J Jx hY (fun pre X Y hj hg => hJ pre X Y none hj ⟨hg.os, hg.tape, hg.output, hg.size, fun b hb _ => hg.block b hb⟩ (fun r e => by cases e)) W ((hW.block Bs (Blk.lt hbs)).trans hbs) ((hW.block gL hlt).trans hgL) (Nat.lt_of_lt_of_le hlt hW.size) h0).mono ?_
  rintro e W' ⟨he, hj | ⟨pre, h1, hj⟩⟩
  · exact ⟨he, .inl ⟨_, rfl, hj⟩⟩
  · exact ⟨he, .inr ⟨pre, h1, hj⟩⟩
/-- A row read in a block that lies as it lay. -/
theorem logAt_row {w : World} {C : Nat} {g o : Nat} {log : List (ByteArray × ByteArray)} (h : Row w C 2 (some ⟨g, o, none⟩) log.length (rowsC enF log)) : LogAt log g o w.heap[g]? := fun W hW k hk => by
  obtain ⟨g', o', e, hg, c0, c1⟩ := h.at2 enF_len hk rfl
  cases e
  have up : ∀ i, W.cell? ⟨g, i, none⟩ = w.cell? ⟨g, i, none⟩ := fun i => by unfold World.cell?; rw [hW]
  exact ⟨(up _).trans c0, (up _).trans c1⟩
end Go.Proofs.YtlbpogklkkninaaGreatDoor
