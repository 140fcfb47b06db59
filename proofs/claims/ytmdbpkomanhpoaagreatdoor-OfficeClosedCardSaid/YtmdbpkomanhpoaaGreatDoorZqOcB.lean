/- Contract: math/bits.TrailingZeros64, laid at this program. Contracts: which marks are right; which rows have a mark. -/
import Derived.Shelf.Spec.TrailingZeros
import Derived.Test.YtmdbpkomanhpoaaGreatDoorProg
import Derived.Test.YtmdbpkomanhpoaaGreatDoorZqOsG
import Derived.Test.YtmdbpkomanhpoaaGreatDoorZqOsN
import Derived.Test.YtmdbpkomanhpoaaGreatDoorZqOtB
namespace Go.Proofs.YtmdbpkomanhpoaaGreatDoor
open Go.RowKit Go.Shelf

def lays29_ren : Go.Shelf.Ren := ⟨fun | 29 => 174 | n => n, fun | 22 => 223 | 25 => 233 | 54 => 281 | n => n, fun | 1 => 7 | n => n⟩
theorem lays29 : Go.Proofs.Lays7.n29 Tryz.prog lays29_ren := {
  mixed := by kernel_rfl
  f29 := Tryz.func174.trans (congrArg some (by kernel_rfl))
  t0 := Tryz.underlying0
  a0 := Tryz.isAgg0
  z0 := Tryz.sizeOf0
  v0 := Tryz.zeroValue0
  i0 := by kernel_rfl
  t3 := Tryz.underlying3
  a3 := Tryz.isAgg3
  z3 := Tryz.sizeOf3
  v3 := Tryz.zeroValue3
  i3 := by kernel_rfl
  t4 := Tryz.underlying4
  a4 := Tryz.isAgg4
  z4 := Tryz.sizeOf4
  v4 := Tryz.zeroValue4
  i4 := by kernel_rfl
  t5 := Tryz.underlying5
  a5 := Tryz.isAgg5
  z5 := Tryz.sizeOf5
  v5 := Tryz.zeroValue5
  i5 := by kernel_rfl
  t22 := Tryz.underlying223
  a22 := Tryz.isAgg223
  z22 := Tryz.sizeOf223
  v22 := Tryz.zeroValue223
  i22 := by kernel_rfl
  t25 := Tryz.underlying233
  a25 := Tryz.isAgg233
  z25 := Tryz.sizeOf233
  v25 := Tryz.zeroValue233
  i25 := by kernel_rfl
  t54 := Tryz.underlying281
  a54 := Tryz.isAgg281
  z54 := Tryz.sizeOf281
  g1 := by kernel_rfl }
/-- What the table of the library holds. -/
def Tz (w : World) : Prop := Go.Proofs.TabAt 7 Lib.deBruijn64tab w
theorem tz64_any (x : Nat) (hx : x < 18446744073709551616) (w : World) (hT : Tz w) : Calls Tryz.prog 174 #[.int .u64 x] w fun e w' => e = .returned (.int .i64 (Lib.ctz 64 x)) ∧ w' = w :=
  Go.Proofs.Any7.bits_TrailingZeros64 lays29 x hx w (fun _ => hT)
theorem Tz.below {w w' : World} {B : Nat} (h : Tz w) (hb : Below B w w') (hB : w.heap.size ≤ B) : Tz w' := fun j hj => by
  have h1 := h j hj
  have h2 := World.block_lt_of_cell? _ _ h1
  rw [hb.cell (p := ⟨7, j, none⟩) (by simp only at h2 ⊢; omega)]
  exact h1
end Go.Proofs.YtmdbpkomanhpoaaGreatDoor

namespace Go.Proofs.YtmdbpkomanhpoaaGreatDoor
open Go.RowKit

abbrev mkM (m : Nat → Int) : Array Value := #[.int .i64 (m 0), .int .i64 (m 1), .int .i64 (m 2), .int .i64 (m 3), .int .i64 (m 4), .int .i64 (m 5)]
theorem mkM_at (m : Nat → Int) {j : Nat} (hj : j < 6) : (mkM m)[j]? = some (.int .i64 (m j)) := by
  obtain rfl | rfl | rfl | rfl | rfl | rfl : j = 0 ∨ j = 1 ∨ j = 2 ∨ j = 3 ∨ j = 4 ∨ j = 5 := by omega
  all_goals rfl
theorem rwC_at (r : Rw) {j : Nat} (hj : j < 12) : (rwC r)[j]? = some (.int .i64 (r.b j)) := by
  obtain rfl | rfl | rfl | rfl | rfl | rfl | rfl | rfl | rfl | rfl | rfl | rfl : j = 0 ∨ j = 1 ∨ j = 2 ∨ j = 3 ∨ j = 4 ∨ j = 5 ∨ j = 6 ∨ j = 7 ∨ j = 8 ∨ j = 9 ∨ j = 10 ∨ j = 11 := by omega
  all_goals rfl
/-- The error of a mark. -/
def markQ (m : Nat → Int) (q : Nat) : Int := if wi (m q) 0 (grt q) = true then 0 else 2
def cmE (m : Nat → Int) : Int := (firstE (markQ m) 6).2

set_option maxRecDepth 100000 in
set_option maxHeartbeats 1000000 in
theorem checkMark_any (m : Nat → Int) (w : World) (hQ : Quant w) :
    Calls Tryz.prog 138 #[.agg (mkM m)] w fun e w' => e = .returned (.int .i64 (cmE m)) ∧ Below w.heap.size w w' := by
  have hl := hQ.lt
  obtain ⟨_, q0, q1, q2, q3, q4, q5⟩ := hQ
  have b0 := Blk.new w 93 (mkM m)
  have hB0 : Below w.heap.size w (w.alloc (.cells (mkM m) 93)) := (by repeat (first | (with_reducible exact Below.refl _ _) | (with_reducible assumption) | ((with_reducible refine Below.setCell ?_ ?_ _); rotate_left; · (first | exact Nat.le_refl _ | (simp; done) | (simp; omega) | omega)) | ((with_reducible refine Below.alloc ?_ ?_ _); rotate_left; · (first | exact Nat.le_refl _ | (simp; done) | (simp; omega) | omega)) | (with_reducible apply Below.drew) | (with_reducible apply below_drewN') | (refine Below.trans ?_ (Below.mono (by assumption) (by first | exact Nat.le_refl _ | (simp; done) | (simp; omega) | omega))) | exact Below.refl _ _ | assumption))
  have hAT : Hid (∀ j, j < 6 → (mkM m)[j]? = some (.int .i64 (m j))) := Lib.hid fun j hj => mkM_at m hj
  have hGA := Lib.hid grt_at
  go_enter Tryz.func138, Tryz.ntmps138
  go_wp2
  go_loop [6] (fun i => ∃ q : Nat, q ≤ 6 ∧ i = .int .i64 q ∧ Hid (FineTo (markQ m) q)) (fun i => 6 - (intOf i).toNat)
  case atStart => exact ⟨0, Nat.zero_le _, rfl, Lib.hid (FineTo.zero _)⟩
  case round =>
    obtain ⟨q, hq, rfl, HI⟩ := hrel
    by_cases hlt : q < 6
    · have hgr := hGA.out q hlt
      have c0 := (b0.cell q).trans (hAT.out _ (by omega))
      have HBAD : Hid (markQ m q ≠ 0 → cmE m = markQ m q) := Lib.hid (fun he => by unfold cmE; rw [firstE_bad HI.out hlt he])
      have HNX : Hid (markQ m q = 0 → FineTo (markQ m) (q + 1)) := Lib.hid (fun he => HI.out.step he)
      have HM : Hid (markQ m q = if wi (m q) 0 (grt q) = true then 0 else 2) := Lib.hid rfl
      obtain ⟨G, hG⟩ : ∃ G, grt q = G := ⟨_, rfl⟩
      rw [hG] at hgr HM
      clear hG hAT hGA b0
      generalize m q = x at *
      cases hw : wi x 0 G
      · have HX : Hid (cmE m = 2) := Lib.hid (by rw [HBAD.out (by rw [HM.out, hw]; simp), HM.out, hw]; rfl)
        go_wp2_with (go_at_call 170; refine (cdWithin_any _ _ _ _).mono ?_; rw [hw]; rintro e w1 ⟨rfl, rfl⟩)
        go_ret
        exact ⟨by rw [HX.out]; rfl, hB0⟩
      · have HX := Lib.hid (HNX.out (by rw [HM.out, hw]; rfl))
        go_wp2_with (go_at_call 170; refine (cdWithin_any _ _ _ _).mono ?_; rw [hw]; rintro e w1 ⟨rfl, rfl⟩)
        refine ⟨⟨q + 1, by omega, by go_num, HX⟩, by simp [intOf]; omega⟩
    · obtain rfl : q = 6 := by omega
      have HX : Hid (cmE m = 0) := Lib.hid (by unfold cmE; rw [firstE_end HI.out])
      go_wp2
      go_ret
      exact ⟨by rw [HX.out]; rfl, hB0⟩

def sixI : List Int := [0, 1, 2, 3, 4, 5]
theorem sixI_snoc {k : Nat} (h : k < 6) : intsC (sixI.take (k + 1)) = intsC (sixI.take k) ++ [.int .i64 k] := by
  obtain rfl | rfl | rfl | rfl | rfl | rfl : k = 0 ∨ k = 1 ∨ k = 2 ∨ k = 3 ∨ k = 4 ∨ k = 5 := by omega
  all_goals rfl
set_option maxRecDepth 100000 in
set_option maxHeartbeats 1000000 in
theorem six_any (w : World) : Calls Tryz.prog 172 #[] w fun e w' => ∃ v, e = .returned v ∧ w'.ownsRow w.heap.size 3 1 v 6 (intsC sixI) ∧ Below w.heap.size w w' := by
  obtain ⟨i0, hi, hz0, hz1, hz2⟩ := info_parts infoI
  go_enter Tryz.func172, Tryz.ntmps172
  go_wp2
  go_loopw [1, 3] (fun v i wr => ∃ k : Nat, k ≤ 6 ∧ i = .int .i64 k ∧ Hid (wr.ownsRow w.heap.size 3 1 v k (intsC (sixI.take k))) ∧ Below w.heap.size w wr) (fun _ i _ => 6 - (intOf i).toNat)
  case atStart => exact ⟨0, by omega, rfl, Lib.hid (World.ownsRow_nil _ _ _ _), Below.refl _ _⟩
  case round =>
    obtain ⟨k, hk, rfl, HO, hBr⟩ := hrel
    by_cases hlt : k < 6
    · have ow := HO.out.alloc (.cells #[.int .i64 (k : Int)] 3 (0, 0))
      have bn := Blk.new wr 3 #[.int .i64 (k : Int)]
      have HS : Hid (Src (wr.alloc (.cells #[.int .i64 (k : Int)] 3)) 1 (some ⟨wr.heap.size, 0, none⟩) 1 1 [.int .i64 (k : Int)]) := Lib.hid (Src.mk (B := wr.heap.size + 1) ⟨rfl, fun _ => ⟨wr.heap.size, 0, rfl, by omega, fun j u hu => by rw [Nat.zero_add, bn.cell j, List.getElem?_toArray]; exact hu⟩⟩ (fun e => by cases e))
      have hsz := Below.size hBr
      clear bn
      go_wp2_with (at_builtin; refine wpList_append_row rfl _ _ 107 rfl w.heap.size 3 i0 (.int .i64 0) 1 8 Tryz.underlying107 hi hz0 hz1 hz2 rfl (by decide) _ _ _ rfl ow (some ⟨wr.heap.size, 0, none⟩) 1 1 [.int .i64 (k : Int)] rfl HS.out (by simp [Value.oneCell']) (by unfold maxLen; omega) (by omega) (by simp; omega) ?_)
      intro v3 w3 own3 hgrow _
      have hB3 : Below w.heap.size w w3 := below_own (hBr.alloc hsz _) (Nat.le_refl _) ow hgrow
      have HO3 : Hid (w3.ownsRow w.heap.size 3 1 v3 (k + 1) (intsC (sixI.take (k + 1)))) := Lib.hid (by rw [sixI_snoc hlt]; exact own3)
      go_wp2
      refine ⟨⟨k + 1, by omega, by go_num, HO3, hB3⟩, by simp [intOf]; omega⟩
    · obtain rfl : k = 6 := by omega
      have ow := HO.out
      clear HO
      go_wp2
      go_ret
      exact ⟨_, rfl, ow, hBr⟩

/-- Whether a row has a quantity of a mark. -/
def hasQ (r : Rw) (m : Nat → Int) (q : Nat) : Bool := wi (m q) (r.b (q * 2)) (r.b (q * 2 + 1))
def hasM (r : Rw) (m : Nat → Int) : Bool := !(sixI.any fun q => !hasQ r m q.toNat)
set_option maxRecDepth 100000 in
set_option maxHeartbeats 1000000 in
theorem notIn_any (r : Rw) (m : Nat → Int) (bm br q : Nat) (hq : q < 6) (w : World) (hm : Blk w bm 93 (mkM m)) (hr : Blk w br 106 (rwC r)) :
    Calls Tryz.prog 173 #[.int .i64 q, .pointer (some ⟨bm, 0, none⟩), .pointer (some ⟨br, 0, none⟩)] w fun e w' => e = .returned (.bool (!hasQ r m q)) ∧ Below w.heap.size w w' := by
  have c0 := (hm.cell q).trans (mkM_at m hq)
  have c1 := (hr.cell (q * 2)).trans (rwC_at r (by omega))
  have c2 := (hr.cell (q * 2 + 1)).trans (rwC_at r (by omega))
  have HX : Hid (hasQ r m q = wi (m q) (r.b (q * 2)) (r.b (q * 2 + 1))) := Lib.hid rfl
  have l0 := hm.lt; have l1 := hr.lt
  clear hm hr
  generalize m q = x at *
  generalize r.b (q * 2) = lo at *
  generalize r.b (q * 2 + 1) = hi at *
  have HW : Hid (∀ w : World, Calls Tryz.prog 170 #[.int .i64 x, .int .i64 lo, .int .i64 hi] w fun e w' => e = .returned (.bool (wi x lo hi)) ∧ w' = w) := Lib.hid fun w => (cdWithin_any x lo hi w).mono fun e w' ⟨h1, h2⟩ => ⟨h1, h2.symm⟩
  have hB : Below w.heap.size w w := Below.refl _ _
  go_enter Tryz.func173, Tryz.ntmps173
  go_wp2
  go_quiet (first | (go_at_call 170; exact Calls.quiet_of_same (HW.out _)))
  go_wp2
  go_ret
  exact ⟨by rw [HX.out]; rfl, by first | exact hB | exact below_drewN' hB _⟩
end Go.Proofs.YtmdbpkomanhpoaaGreatDoor
