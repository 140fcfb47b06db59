/- Contracts: the set of rows that have a mark (setOf). Contract: the row that decides a mark, and the decision (code.Decide). Contracts: code.open, decision, Decide. -/
import Derived.Laws.Bits64b
import Derived.Test.YtmdbpkomanhpoaaGreatDoorZqOcB
namespace Go.Proofs.YtmdbpkomanhpoaaGreatDoor
open Go.RowKit

theorem sixI_at {k : Nat} (h : k < 6) : sixI[k]'(by simpa [sixI] using h) = (k : Int) := by
  obtain rfl | rfl | rfl | rfl | rfl | rfl : k = 0 ∨ k = 1 ∨ k = 2 ∨ k = 3 ∨ k = 4 ∨ k = 5 := by omega
  all_goals rfl
theorem sixI_len : sixI.length = 6 := rfl
set_option maxRecDepth 100000 in
set_option maxHeartbeats 1000000 in
theorem idxSix (r : Rw) (m : Nat → Int) (bm br : Nat) (A : Option Addr) (c B : Nat) (w : World) (hR : Row w B 1 A 6 (intsC sixI)) (hB : B ≤ w.heap.size) (hm : Blk w bm 93 (mkM m)) (hr : Blk w br 106 (rwC r)) :
    Calls Tryz.prog 201 #[.slice A 6 c, .func (.func 173) #[] #[.pointer (some ⟨bm, 0, none⟩), .pointer (some ⟨br, 0, none⟩)]] w fun e w' => e = .returned (.int .i64 (idxV (fun q => !hasQ r m q.toNat) sixI)) ∧ Below w.heap.size w w' := by
  obtain ⟨g, o, hA, hg, hc⟩ := hR.2 (by omega)
  have HC : Hid (∀ k (h : k < 6), w.cell? ⟨g, o + k, none⟩ = some (.int .i64 (k : Int))) := Lib.hid fun k h => by
    have := hc k (.int .i64 (k : Int)) (by rw [intsC_get sixI k (by rw [sixI_len]; exact h), sixI_at h])
    exact this
  have hgw : g < w.heap.size := by omega
  subst hA
  clear hc hR
  go_enter Tryz.func201, Tryz.ntmps201
  go_wp2
  go_loopw [8] (fun i wr => ∃ k : Nat, k ≤ 6 ∧ i = .int .i64 k ∧ Hid ((sixI.take k).any (fun q => !hasQ r m q.toNat) = false) ∧ Below w.heap.size w wr) (fun i _ => 6 - (intOf i).toNat)
  case atStart => exact ⟨0, Nat.zero_le _, rfl, Lib.hid rfl, Below.refl _ _⟩
  case round =>
    obtain ⟨k, hk, rfl, HI, hB'⟩ := hrel
    by_cases hlt : k < 6
    · have c0 := (hB'.cell (p := ⟨g, o + k, none⟩) hgw).trans (HC.out k hlt)
      have hcall := notIn_any r m bm br k hlt wr (hm.below hB' hm.lt) (hr.below hB' hr.lt)
      have HIT : Hid ((!hasQ r m k) = true → idxV (fun q : Int => !hasQ r m q.toNat) sixI = (k : Int)) := Lib.hid fun h => idxV_hit (by rw [sixI_len]; exact hlt) HI.out (by rw [sixI_at hlt, Int.toNat_natCast]; exact h)
      have HNX : Hid ((!hasQ r m k) = false → (sixI.take (k + 1)).any (fun q => !hasQ r m q.toNat) = false) := Lib.hid fun h => by rw [any_take_snoc _ _ (by rw [sixI_len]; exact hlt), HI.out, sixI_at hlt, Int.toNat_natCast, h]; rfl
      obtain ⟨T, hT⟩ : ∃ T, (!hasQ r m k) = T := ⟨_, rfl⟩
      rw [hT] at hcall HIT HNX
      have HCL := Lib.hid hcall
      clear hcall hT
      cases T
      · have HX := Lib.hid (HNX.out rfl)
        go_wp2_with fail
        refine HCL.out.mono ?_
        rintro e w1 ⟨rfl, hB1⟩
        go_wp2
        refine ⟨⟨k + 1, by omega, by go_num, HX, Below.trans hB' (hB1.mono (Below.size hB'))⟩, by simp [intOf]; omega⟩
      · have HX := Lib.hid (HIT.out rfl)
        go_wp2_with fail
        refine HCL.out.mono ?_
        rintro e w1 ⟨rfl, hB1⟩
        go_wp2
        go_ret
        exact ⟨by rw [HX.out]; rfl, Below.trans hB' (hB1.mono (Below.size hB'))⟩
    · obtain rfl : k = 6 := by omega
      have HS : Hid _ := Lib.hid (idxV_none (P := fun q : Int => !hasQ r m q.toNat) (l := sixI) (by have := HI.out; rwa [List.take_of_length_le (by rw [sixI_len]; omega)] at this))
      go_wp2
      go_ret
      exact ⟨by rw [HS.out]; rfl, hB'⟩
set_option maxHeartbeats 400000 in
theorem hasSix (r : Rw) (m : Nat → Int) (bm br : Nat) (A : Option Addr) (c B : Nat) (w : World) (hR : Row w B 1 A 6 (intsC sixI)) (hB : B ≤ w.heap.size) (hm : Blk w bm 93 (mkM m)) (hr : Blk w br 106 (rwC r)) :
    Calls Tryz.prog 171 #[.slice A 6 c, .func (.func 173) #[] #[.pointer (some ⟨bm, 0, none⟩), .pointer (some ⟨br, 0, none⟩)]] w fun e w' => e = .returned (.bool (!hasM r m)) ∧ Below w.heap.size w w' := by
  have HX : Hid (decide (0 ≤ idxV (fun q : Int => !hasQ r m q.toNat) sixI) = !hasM r m) := Lib.hid (by rw [idxV_any]; unfold hasM; rw [Bool.not_not])
  have HC := Lib.hid (idxSix r m bm br A c B w hR hB hm hr)
  clear hR hm hr
  go_enter Tryz.func171, Tryz.ntmps171
  go_wp2_with fail
  refine HC.out.mono ?_
  rintro e w1 ⟨rfl, hB1⟩
  go_wp2
  go_ret
  exact ⟨by rw [← HX.out]; rfl, hB1⟩

/-- The set of the first k rows that have a mark. -/
def setN (l : List Rw) (m : Nat → Int) : Nat → Nat
  | 0 => 0
  | k + 1 => setN l m k + (match l[k]? with | some r => if hasM r m = true then 2 ^ k else 0 | none => 0)
theorem setN_lt (l : List Rw) (m : Nat → Int) (k : Nat) : setN l m k < 2 ^ k := by
  induction k with
  | zero => simp [setN]
  | succ k ih =>
    unfold setN
    have : (match l[k]? with | some r => if hasM r m = true then 2 ^ k else 0 | none => 0) ≤ 2 ^ k := by
      split
      · split
        · exact Nat.le_refl _
        · exact Nat.zero_le _
      · exact Nat.zero_le _
    rw [Nat.pow_succ]
    omega
theorem setN_no {l : List Rw} {m : Nat → Int} {k : Nat} (h : k < l.length) (hm : hasM l[k] m = false) : setN l m (k + 1) = setN l m k := by
  rw [setN, List.getElem?_eq_getElem h]; simp [hm]
theorem setN_yes {l : List Rw} {m : Nat → Int} {k : Nat} (h : k < l.length) (hm : hasM l[k] m = true) : setN l m (k + 1) = setN l m k + 2 ^ k := by
  rw [setN, List.getElem?_eq_getElem h]; simp [hm]
theorem or_pow (s k : Nat) (h : s < 2 ^ k) : s ||| 2 ^ k = s + 2 ^ k := by
  have := Nat.two_pow_add_eq_or_of_lt h 1
  rw [Nat.mul_one] at this
  rw [Nat.or_comm, ← this, Nat.add_comm]

theorem bits_or_u64 (s k : Nat) (hk : k ≤ 20) (hs : s < 2 ^ k) : bits .or .u64 (s : Int) (IntKind.u64.wrap (2 ^ k)) = ((s + 2 ^ k : Nat) : Int) := by
  have h20 : 2 ^ k ≤ 2 ^ 20 := Nat.pow_le_pow_right (by decide) hk
  have h20' : (2 : Nat) ^ 20 = 1048576 := by decide
  have hp : ((2 : Int) ^ k) = ((2 ^ k : Nat) : Int) := by norm_cast
  have hw : IntKind.u64.wrap ((2 : Int) ^ k) = ((2 ^ k : Nat) : Int) := by
    rw [hp, IntKind.wrap_u64]
    omega
  rw [hw, ← or_pow s k hs]
  exact bits_or_u64_nat s (2 ^ k) (by omega) (by omega)

set_option maxRecDepth 100000 in
set_option maxHeartbeats 4000000 in
theorem setOf_any (l : List Rw) (A : Option Addr) (c : Nat) (m : Nat → Int) (B : Nat) (w : World) (hR : Row w B 13 A l.length (rowsC rwF l)) (hB : B ≤ w.heap.size) (hl : l.length ≤ 20) :
    Calls Tryz.prog 141 #[.slice A l.length c, .agg (mkM m)] w fun e w' => e = .returned (.int .u64 (setN l m l.length : Nat)) ∧ Below w.heap.size w w' := by
  have HR := Lib.hid hR; clear hR
  have bm := Blk.new w 93 (mkM m)
  have hB0 : Below w.heap.size w (w.alloc (.cells (mkM m) 93)) := (by repeat (first | (with_reducible exact Below.refl _ _) | (with_reducible assumption) | ((with_reducible refine Below.setCell ?_ ?_ _); rotate_left; · (first | exact Nat.le_refl _ | (simp; done) | (simp; omega) | omega)) | ((with_reducible refine Below.alloc ?_ ?_ _); rotate_left; · (first | exact Nat.le_refl _ | (simp; done) | (simp; omega) | omega)) | (with_reducible apply Below.drew) | (with_reducible apply below_drewN') | (refine Below.trans ?_ (Below.mono (by assumption) (by first | exact Nat.le_refl _ | (simp; done) | (simp; omega) | omega))) | exact Below.refl _ _ | assumption))
  go_enter Tryz.func141, Tryz.ntmps141
  go_wp2
  go_loopw [5, 10] (fun s i wr => ∃ k : Nat, k ≤ l.length ∧ i = .int .i64 k ∧ s = .int .u64 (setN l m k : Nat) ∧ Below (w.heap.size + 1) (w.alloc (.cells (mkM m) 93)) wr) (fun _ i _ => l.length - (intOf i).toNat)
  case atStart => exact ⟨0, Nat.zero_le _, rfl, rfl, (by repeat (first | (with_reducible exact Below.refl _ _) | (with_reducible assumption) | ((with_reducible refine Below.setCell ?_ ?_ _); rotate_left; · (first | exact Nat.le_refl _ | (simp; done) | (simp; omega) | omega)) | ((with_reducible refine Below.alloc ?_ ?_ _); rotate_left; · (first | exact Nat.le_refl _ | (simp; done) | (simp; omega) | omega)) | (with_reducible apply Below.drew) | (with_reducible apply below_drewN') | (refine Below.trans ?_ (Below.mono (by assumption) (by first | exact Nat.le_refl _ | (simp; done) | (simp; omega) | omega))) | exact Below.refl _ _ | assumption))⟩
  case round =>
    obtain ⟨k, hk, rfl, rfl, hBr⟩ := hrel
    have hBw : Below w.heap.size w wr := hB0.trans (hBr.mono (by omega))
    have hzz := Below.size hBr
    simp only [World.size_alloc] at hzz
    by_cases hlt : k < l.length
    · obtain ⟨g, o, hA, hg, c0, c1, c2, c3, c4, c5, c6, c7, c8, c9, c10, c11, c12⟩ := rwCells (HR.out.below hBw hB) hlt
      subst hA
      have hsl := setN_lt l m k
      have HY := Lib.hid (setN_yes (m := m) hlt); have HNo := Lib.hid (setN_no (m := m) hlt)
      obtain ⟨r, hr⟩ : ∃ r, l[k] = r := ⟨_, rfl⟩
      rw [hr] at c0 c1 c2 c3 c4 c5 c6 c7 c8 c9 c10 c11 c12 HY HNo
      clear hr
      have br := Blk.new wr 106 (rwC r)
      have bm1 := (bm.below hBr (by omega)).alloc (.cells (rwC r) 106 (0, 0))
      have hBa : Below (w.heap.size + 1) (w.alloc (.cells (mkM m) 93)) (wr.alloc (.cells (rwC r) 106)) := Below.alloc hBr hzz _
      have HSX := Lib.hid (six_any (wr.alloc (.cells (rwC r) 106)))
      go_wp2_with fail
      refine HSX.out.mono ?_
      rintro e w2 ⟨v, rfl, own, hB2⟩
      obtain ⟨A2, cz, rfl, _, _, hR2⟩ := Row.ownd own
      have HHS := Lib.hid (hasSix r m w.heap.size wr.heap.size A2 cz w2.heap.size w2 hR2 (Nat.le_refl _) (bm1.gr hB2) (br.gr hB2))
      have hBb := hBa.trans (hB2.mono (by simp; omega))
      clear hB2 own hR2 br bm1 c0 c1 c2 c3 c4 c5 c6 c7 c8 c9 c10 c11 c12
      obtain ⟨T, hT⟩ : ∃ T, hasM r m = T := ⟨_, rfl⟩
      rw [hT] at HHS HY HNo
      clear hT
      go_wp2_with fail
      refine HHS.out.mono ?_
      rintro e w3 ⟨rfl, hB3⟩
      have hBc := hBb.trans (hB3.mono (Below.size hBb |> fun h => by simp at h; omega))
      clear hB3
      cases T
      · have HX := Lib.hid (HNo.out rfl)
        go_wp2
        refine ⟨⟨k + 1, by omega, by go_num, by rw [HX.out], hBc⟩, by simp [intOf]; omega⟩
      · have HX := Lib.hid (HY.out rfl)
        go_wp2
        refine ⟨⟨k + 1, by omega, by go_num, ?_, hBc⟩, by simp [intOf]; omega⟩
        rw [HX.out, bits_or_u64 (setN l m k) k (by omega) hsl]
    · obtain rfl : k = l.length := by omega
      go_wp2
      go_ret
      exact ⟨rfl, hBw⟩
end Go.Proofs.YtmdbpkomanhpoaaGreatDoor

namespace Go.Proofs.YtmdbpkomanhpoaaGreatDoor
open Go.RowKit

/-- The number of the first row that has a mark, or -1. -/
def rowOf (l : List Rw) (m : Nat → Int) : Int := idxV (fun r => hasM r m) l
theorem setN_zero {l : List Rw} {m : Nat → Int} (h : l.any (fun r => hasM r m) = false) : ∀ k, k ≤ l.length → setN l m k = 0
  | 0, _ => rfl
  | k + 1, hk => by rw [setN_no (by omega) (by simpa using List.any_eq_false.1 h _ (List.getElem_mem (show k < l.length by omega))), setN_zero h k (by omega)]
theorem setN_take {l : List Rw} {m : Nat → Int} {i : Nat} (hi : i ≤ l.length) (h : (l.take i).any (fun r => hasM r m) = false) : setN l m i = 0 := by
  have : ∀ k, k ≤ i → setN l m k = 0 := fun k => by
    induction k with
    | zero => exact fun _ => rfl
    | succ k ih =>
      intro hk
      rw [setN_no (by omega) (by simpa using List.any_eq_false.1 h _ (List.mem_take_iff_getElem.2 ⟨k, by omega, rfl⟩)), ih (by omega)]
  exact this i (Nat.le_refl _)
theorem setN_odd {l : List Rw} {m : Nat → Int} {i : Nat} (hi : i < l.length) (h : (l.take i).any (fun r => hasM r m) = false) (hm : hasM l[i] m = true) : ∀ k, k + i + 1 ≤ l.length → ∃ t, setN l m (k + i + 1) = 2 ^ i * (2 * t + 1)
  | 0, _ => ⟨0, by rw [Nat.zero_add, setN_yes hi hm, setN_take (Nat.le_of_lt hi) h]; simp⟩
  | k + 1, hk => by
    obtain ⟨t, ht⟩ := setN_odd hi h hm k (by omega)
    rw [show k + 1 + i + 1 = (k + i + 1) + 1 by omega]
    cases hc : hasM (l[k + i + 1]'(by omega)) m
    · exact ⟨t, by rw [setN_no (by omega) hc, ht]⟩
    · refine ⟨t + 2 ^ k, ?_⟩
      rw [setN_yes (by omega) hc, ht, show k + i + 1 = i + (k + 1) by omega, Nat.pow_add, Nat.pow_succ, ← Nat.mul_add]
      congr 1
      omega
theorem ctz_odd (i t : Nat) (h : 2 ^ i * (2 * t + 1) < 2 ^ 64) : Lib.ctz 64 (2 ^ i * (2 * t + 1)) = i := by
  have hp : 0 < 2 ^ i := Nat.two_pow_pos i
  have hx : 0 < 2 ^ i * (2 * t + 1) := Nat.mul_pos hp (by omega)
  unfold Lib.ctz
  rw [if_neg (by omega)]
  obtain ⟨n, hn, _⟩ := Lib.ctzFrom_spec 64 _ hx h
  generalize Lib.ctzFrom 64 (2 ^ i * (2 * t + 1)) = c at hn
  have key : ∀ (a b u v : Nat), 2 ^ a * (2 * u + 1) = 2 ^ b * (2 * v + 1) → a < b → False := fun a b u v e hab => by
    obtain ⟨d, rfl⟩ : ∃ d, b = a + (d + 1) := ⟨b - a - 1, by omega⟩
    rw [Nat.pow_add, Nat.mul_assoc] at e
    have e2 := Nat.eq_of_mul_eq_mul_left (Nat.two_pow_pos a) e
    rw [Nat.pow_succ, Nat.mul_comm (2 ^ d) 2, Nat.mul_assoc] at e2
    omega
  rcases Nat.lt_trichotomy c i with hlt | heq | hgt
  · exact (key c i n t hn.symm hlt).elim
  · exact heq
  · exact (key i c t n hn hgt).elim
theorem setN_ctz {l : List Rw} {m : Nat → Int} {i : Nat} (hl : l.length ≤ 20) (hr : rowOf l m = (i : Int)) : setN l m l.length ≠ 0 ∧ Lib.ctz 64 (setN l m l.length) = i ∧ ∃ h : i < l.length, hasM l[i] m = true := by
  unfold rowOf at hr
  have hr0 := hr
  unfold idxV at hr
  cases hf : l.findIdx? (fun r => hasM r m) with
  | none => rw [hf] at hr; simp at hr
  | some j =>
    rw [hf] at hr
    obtain rfl : j = i := Int.ofNat.inj hr
    obtain ⟨hj, hp, hb⟩ := List.findIdx?_eq_some_iff_getElem.1 hf
    have hno : (l.take j).any (fun r => hasM r m) = false := List.any_eq_false.2 fun x hx => by
      obtain ⟨n, hn, rfl⟩ := List.mem_take_iff_getElem.1 hx
      simpa using hb n (by omega)
    obtain ⟨t, ht⟩ := setN_odd hj hno hp (l.length - j - 1) (by omega)
    rw [show l.length - j - 1 + j + 1 = l.length by omega] at ht
    have hlt := setN_lt l m l.length
    have h20 : 2 ^ l.length ≤ 2 ^ 20 := Nat.pow_le_pow_right (by decide) hl
    have h64 : (2 : Nat) ^ 20 < 2 ^ 64 := by decide
    refine ⟨?_, by rw [ht]; exact ctz_odd j t (by rw [← ht]; omega), hj, hp⟩
    rw [ht]
    have hp2 : 0 < 2 ^ j := Nat.two_pow_pos j
    have : 0 < 2 ^ j * (2 * t + 1) := Nat.mul_pos hp2 (by omega)
    omega
theorem setN_none {l : List Rw} {m : Nat → Int} (hr : ¬ 0 ≤ rowOf l m) : setN l m l.length = 0 := by
  refine setN_zero ?_ _ (Nat.le_refl _)
  have := idxV_any (fun r => hasM r m) l
  unfold rowOf at hr
  rw [← this]
  simpa using hr

set_option maxHeartbeats 400000 in
theorem first_any (x : Nat) (hx : x < 18446744073709551616) (w : World) (hT : Tz w) : Calls Tryz.prog 143 #[.int .u64 x] w fun e w' => e = .returned (.int .i64 (Lib.ctz 64 x)) ∧ w' = w := by
  go_enter Tryz.func143, Tryz.ntmps143
  go_wp2_with fail
  refine (tz64_any x hx w hT).mono ?_
  rintro e w' ⟨rfl, rfl⟩
  go_wp2
  go_ret
  exact ⟨rfl, rfl⟩

/-- What Decide tells: the row, the decision, the error. -/
def decE (k : Cd) (m : Nat → Int) : Int × Int × Int :=
  if (codeE k).2 = 0 then (if cmE m = 0 then (match (k.ex ++ k.rows)[(rowOf (k.ex ++ k.rows) m).toNat]? with
      | some r => if 0 ≤ rowOf (k.ex ++ k.rows) m then (rowOf (k.ex ++ k.rows) m, r.dec, 0) else (0, 0, 12)
      | none => (0, 0, 12)) else (0, 0, cmE m)) else (0, 0, (codeE k).2)
theorem decE_code {k : Cd} {m : Nat → Int} (h : (codeE k).2 ≠ 0) : decE k m = (0, 0, (codeE k).2) := by unfold decE; rw [if_neg h]
theorem decE_mark {k : Cd} {m : Nat → Int} (h : (codeE k).2 = 0) (h1 : cmE m ≠ 0) : decE k m = (0, 0, cmE m) := by unfold decE; rw [if_pos h, if_neg h1]
theorem decE_none {k : Cd} {m : Nat → Int} (h : (codeE k).2 = 0) (h1 : cmE m = 0) (h2 : ¬ 0 ≤ rowOf (k.ex ++ k.rows) m) : decE k m = (0, 0, 12) := by
  unfold decE; rw [if_pos h, if_pos h1]; split
  · rw [if_neg h2]
  · rfl
theorem decE_row {k : Cd} {m : Nat → Int} {i : Nat} (h : (codeE k).2 = 0) (h1 : cmE m = 0) (h2 : rowOf (k.ex ++ k.rows) m = (i : Int)) (hi : i < (k.ex ++ k.rows).length) : decE k m = ((i : Int), (k.ex ++ k.rows)[i].dec, 0) := by
  unfold decE; rw [if_pos h, if_pos h1, h2, Int.toNat_natCast, List.getElem?_eq_getElem hi]
  show (if (0 : Int) ≤ (i : Int) then _ else _) = _
  rw [if_pos (by omega)]
theorem codeE_len {k : Cd} (h : (codeE k).2 = 0) : (k.ex ++ k.rows).length ≤ 20 := by
  unfold codeE at h
  rw [List.length_append]
  split at h
  · cases h
  · split at h
    · cases h
    · split at h
      · cases h
      · omega
end Go.Proofs.YtmdbpkomanhpoaaGreatDoor

namespace Go.Proofs.YtmdbpkomanhpoaaGreatDoor
open Go.RowKit

set_option maxRecDepth 100000 in
set_option maxHeartbeats 1000000 in
theorem cdOpen_any (k : Cd) (A : Option Addr) (c : Nat) (A' : Option Addr) (c' B : Nat) (w : World) (hk : CdOk k A c A' c' B w) (hQ : Quant w) :
    Calls Tryz.prog 140 #[.agg #[.string k.nm, .slice A k.ex.length c, .slice A' k.rows.length c']] w fun e w' => ∃ v, e = .returned (.tuple #[v, .int .i64 (codeE k).2]) ∧ w'.ownsRow w.heap.size 106 13 v (k.ex ++ k.rows).length (rowsC rwF (k.ex ++ k.rows)) ∧ Below w.heap.size w w' := by
  have b0 := Blk.new w 25 #[.string k.nm, .slice A k.ex.length c, .slice A' k.rows.length c']
  have hB0 : Below w.heap.size w (w.alloc (.cells #[.string k.nm, .slice A k.ex.length c, .slice A' k.rows.length c'] 25)) := (by repeat (first | (with_reducible exact Below.refl _ _) | (with_reducible assumption) | ((with_reducible refine Below.setCell ?_ ?_ _); rotate_left; · (first | exact Nat.le_refl _ | (simp; done) | (simp; omega) | omega)) | ((with_reducible refine Below.alloc ?_ ?_ _); rotate_left; · (first | exact Nat.le_refl _ | (simp; done) | (simp; omega) | omega)) | (with_reducible apply Below.drew) | (with_reducible apply below_drewN') | (refine Below.trans ?_ (Below.mono (by assumption) (by first | exact Nat.le_refl _ | (simp; done) | (simp; omega) | omega))) | exact Below.refl _ _ | assumption))
  have HK := Lib.hid hk; have hB := hk.base
  have HQ := Lib.hid hQ; clear hk hQ
  go_enter Tryz.func140, Tryz.ntmps140
  go_wp2_with fail
  refine (cdCheckCode_any k A c A' c' B _ (HK.out.below hB0 hB) (HQ.out.below hB0 (Nat.le_refl _))).mono ?_
  rintro e w1 ⟨rfl, hB1⟩
  have b1 := b0.below hB1 b0.lt
  have d0 := b1.cell 0; have d1 := b1.cell 1; have d2 := b1.cell 2
  have hBB := hB0.trans (hB1.mono (by simp))
  clear hB1
  go_wp2_with fail
  refine (all_any k A c A' c' B w1 (HK.out.below hBB hB)).mono ?_
  rintro e w2 ⟨v, rfl, own, hB2⟩
  have hBC := hBB.trans (hB2.mono hBB.size)
  have own2 := own.mono (base' := w.heap.size) hBB.size
  rw [← List.length_append] at own2
  clear hB2 own
  go_wp2
  go_ret2
  exact ⟨_, rfl, own2, hBC⟩

set_option maxHeartbeats 1000000 in
theorem decision_zero (A : Option Addr) (n c : Nat) (w : World) : Calls Tryz.prog 142 #[.slice A n c, .int .u64 0] w fun e w' => e = .returned (.tuple #[.int .i64 0, .bool false]) ∧ w' = w := by
  go_enter Tryz.func142, Tryz.ntmps142
  go_wp2
  go_ret2
  exact ⟨rfl, rfl⟩
set_option maxHeartbeats 1000000 in
theorem decision_row (l : List Rw) (A : Option Addr) (c B : Nat) (x i : Nat) (w : World) (hx : x < 18446744073709551616) (h0 : x ≠ 0) (hi : Lib.ctz 64 x = i) (hil : i < l.length) (_hl : l.length ≤ 20) (hR : Row w B 13 A l.length (rowsC rwF l)) (hT : Tz w) :
    Calls Tryz.prog 142 #[.slice A l.length c, .int .u64 x] w fun e w' => e = .returned (.tuple #[.int .i64 l[i].dec, .bool true]) ∧ w' = w := by
  obtain ⟨g, o, hA, hg, c0, c1, c2, c3, c4, c5, c6, c7, c8, c9, c10, c11, c12⟩ := rwCells hR hil
  subst hA
  have hx1 : ((x : Int) == 0) = false := by simpa using h0
  have HX0 := Lib.hid h0; clear h0
  have HF := Lib.hid (first_any x hx w hT)
  rw [hi] at HF
  go_enter Tryz.func142, Tryz.ntmps142
  go_wp2_with fail
  refine HF.out.mono ?_
  rintro e w' ⟨rfl, rfl⟩
  go_wp2
  go_ret2
  exact ⟨rfl, rfl⟩

set_option maxRecDepth 100000 in
set_option maxHeartbeats 4000000 in
theorem decide_any (k : Cd) (A : Option Addr) (c : Nat) (A' : Option Addr) (c' B : Nat) (m : Nat → Int) (w : World) (hk : CdOk k A c A' c' B w) (hQ : Quant w) (hT : Tz w) :
    Calls Tryz.prog 105 #[.agg #[.string k.nm, .slice A k.ex.length c, .slice A' k.rows.length c'], .agg (mkM m)] w fun e w' => e = .returned (.tuple #[.int .i64 (decE k m).1, .int .i64 (decE k m).2.1, .int .i64 (decE k m).2.2]) ∧ Below w.heap.size w w' := by
  have b0 := (Blk.new w 25 #[.string k.nm, .slice A k.ex.length c, .slice A' k.rows.length c']).alloc (.cells (mkM m) 93 (0, 0))
  have b1 := Blk.new' (w.alloc (.cells #[.string k.nm, .slice A k.ex.length c, .slice A' k.rows.length c'] 25)) 93 (mkM m) (g := w.heap.size + 1) (by simp)
  have hB0 : Below w.heap.size w ((w.alloc (.cells #[.string k.nm, .slice A k.ex.length c, .slice A' k.rows.length c'] 25)).alloc (.cells (mkM m) 93)) := (by repeat (first | (with_reducible exact Below.refl _ _) | (with_reducible assumption) | ((with_reducible refine Below.setCell ?_ ?_ _); rotate_left; · (first | exact Nat.le_refl _ | (simp; done) | (simp; omega) | omega)) | ((with_reducible refine Below.alloc ?_ ?_ _); rotate_left; · (first | exact Nat.le_refl _ | (simp; done) | (simp; omega) | omega)) | (with_reducible apply Below.drew) | (with_reducible apply below_drewN') | (refine Below.trans ?_ (Below.mono (by assumption) (by first | exact Nat.le_refl _ | (simp; done) | (simp; omega) | omega))) | exact Below.refl _ _ | assumption))
  have HO := Lib.hid (cdOpen_any k A c A' c' B _ (hk.below hB0 hk.base) (hQ.below hB0 (Nat.le_refl _)))
  have HQ := Lib.hid hQ; have HT := Lib.hid hT
  clear hk hQ hT
  have HLEN : Hid ((codeE k).2 = 0 → (k.ex ++ k.rows).length ≤ 20) := Lib.hid codeE_len
  have HD1 : Hid ((codeE k).2 ≠ 0 → decE k m = (0, 0, (codeE k).2)) := Lib.hid decE_code
  have HD2 : Hid ((codeE k).2 = 0 → cmE m ≠ 0 → decE k m = (0, 0, cmE m)) := Lib.hid decE_mark
  have HD3 : Hid ((codeE k).2 = 0 → cmE m = 0 → ¬ 0 ≤ rowOf (k.ex ++ k.rows) m → decE k m = (0, 0, 12)) := Lib.hid decE_none
  have HD4 : Hid (∀ i : Nat, (codeE k).2 = 0 → cmE m = 0 → rowOf (k.ex ++ k.rows) m = (i : Int) → ∀ hi : i < (k.ex ++ k.rows).length, decE k m = ((i : Int), (k.ex ++ k.rows)[i].dec, 0)) := Lib.hid fun i => decE_row
  obtain ⟨E, hE⟩ : ∃ E, (codeE k).2 = E := ⟨_, rfl⟩
  rw [hE] at HO HLEN HD1 HD2 HD3 HD4
  clear hE
  generalize k.ex ++ k.rows = l at *
  go_enter Tryz.func105, Tryz.ntmps105
  go_wp2_with fail
  refine HO.out.mono ?_
  rintro e w1 ⟨v, rfl, own, hB1⟩
  have hBB := hB0.trans (hB1.mono (by simp; omega))
  have bm := b1.below hB1 b1.lt
  obtain ⟨A2, cz, rfl, _, _, hR2⟩ := Row.ownd own
  have HR2 := Lib.hid hR2
  have m0 := bm.cell 0; have m1 := bm.cell 1; have m2 := bm.cell 2; have m3 := bm.cell 3; have m4 := bm.cell 4; have m5 := bm.cell 5
  clear hB1 own hR2 b0 b1 hB0 HO
  by_cases hE0 : E = 0
  · have he1 : (E == 0) = true := by simpa using hE0
    have HE0 := Lib.hid hE0
    have HQ1 := Lib.hid (HQ.out.below hBB (Nat.le_refl _)); have HT1 := Lib.hid (HT.out.below hBB (Nat.le_refl _))
    have hlen := HLEN.out hE0
    clear hE0
    go_wp2_with fail
    refine (checkMark_any m w1 HQ1.out).mono ?_
    rintro e w2 ⟨rfl, hB2⟩
    have hBC := hBB.trans (hB2.mono hBB.size)
    have bm2 := bm.below hB2 bm.lt
    clear m0 m1 m2 m3 m4 m5
    have m0 := bm2.cell 0; have m1 := bm2.cell 1; have m2 := bm2.cell 2; have m3 := bm2.cell 3; have m4 := bm2.cell 4; have m5 := bm2.cell 5
    by_cases hc0 : cmE m = 0
    · have hc1 : (cmE m != 0) = false := by simpa using hc0
      have HC0 := Lib.hid hc0; clear hc0
      go_wp2_with fail
      refine (setOf_any l A2 cz m w1.heap.size w2 (HR2.out.below hB2 (Nat.le_refl _)) hB2.size hlen).mono ?_
      rintro e w3 ⟨rfl, hB3⟩
      have hBD := hBC.trans (hB3.mono hBC.size)
      have HR3 := Lib.hid ((HR2.out.below hB2 (Nat.le_refl _)).below hB3 hB2.size)
      have HT3 := Lib.hid (HT.out.below hBD (Nat.le_refl _))
      have hlt64 : setN l m l.length < 18446744073709551616 := by
        have h1 := setN_lt l m l.length
        have h2 : 2 ^ l.length ≤ 2 ^ 20 := Nat.pow_le_pow_right (by decide) hlen
        have h3 : (2 : Nat) ^ 20 = 1048576 := by decide
        omega
      clear m0 m1 m2 m3 m4 m5 hB3
      by_cases hr : 0 ≤ rowOf l m
      · obtain ⟨i, hi⟩ : ∃ i : Nat, rowOf l m = (i : Int) := ⟨(rowOf l m).toNat, by omega⟩
        obtain ⟨s0, s1, hil, _⟩ := setN_ctz hlen hi
        have HX := Lib.hid (HD4.out i HE0.out HC0.out hi hil)
        have HDE := Lib.hid (decision_row l A2 cz w1.heap.size (setN l m l.length) i w3 hlt64 s0 s1 hil hlen HR3.out HT3.out)
        have HFI := Lib.hid (first_any (setN l m l.length) hlt64 w3 HT3.out)
        rw [s1] at HFI
        clear s0 s1 hi hr
        go_wp2_with fail
        refine HDE.out.mono ?_
        rintro e w4 ⟨rfl, rfl⟩
        go_wp2_with fail
        refine HFI.out.mono ?_
        rintro e w5 ⟨rfl, rfl⟩
        go_wp2
        go_ret3
        exact ⟨by rw [HX.out]; rfl, hBD⟩
      · have HX := Lib.hid (HD3.out HE0.out HC0.out (by omega))
        have HZ := Lib.hid (setN_none hr)
        rw [HZ.out]
        clear hr
        go_wp2_with fail
        refine (decision_zero A2 l.length cz w3).mono ?_
        rintro e w4 ⟨rfl, rfl⟩
        go_wp2
        go_ret3
        exact ⟨by rw [HX.out]; rfl, hBD⟩
    · have hc1 : (cmE m != 0) = true := by simpa using hc0
      have HX := Lib.hid (HD2.out HE0.out hc0)
      have HC0 := Lib.hid hc0; clear hc0
      go_wp2
      go_ret3
      exact ⟨by rw [HX.out]; rfl, hBC⟩
  · have he1 : (E == 0) = false := by simpa using hE0
    have he2 : (E != 0) = true := by simpa using hE0
    have HX := Lib.hid (HD1.out hE0)
    have HE0 := Lib.hid hE0; clear hE0
    go_wp2
    go_ret3
    exact ⟨by rw [HX.out]; rfl, hBB⟩
end Go.Proofs.YtmdbpkomanhpoaaGreatDoor
