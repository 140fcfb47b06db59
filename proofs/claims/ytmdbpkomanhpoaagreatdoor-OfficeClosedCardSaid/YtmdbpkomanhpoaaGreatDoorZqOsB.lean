/- Contracts of the tests whether a text is a name, for chapters 6, 9 and 10 (turned from XCvN). Contracts of small functions of the packages office, tune, code and of their references. -/
import Derived.Test.YtmdbpkomanhpoaaGreatDoorZqCvN
namespace Go.Proofs.YtmdbpkomanhpoaaGreatDoor
open Go.RowKit

/-! ### names -/
set_option maxHeartbeats 400000 in
theorem cdIsName_any (s : ByteArray) (w : World) (hs : s.size ≤ 1000000000000) :
    Calls Tryz.prog 115 #[.string s] w fun e w' => e = .returned (.bool (nameB s)) ∧ Below w.heap.size w w' := by
  obtain ⟨cap, W1, hconv, hcells, hB⟩ := bytes_of s w
  have HC := Lib.hid hcells; clear hcells
  go_enter Tryz.func115, Tryz.ntmps115
  go_wp2
  clear hconv
  go_loop [9] (fun i => ∃ k : Nat, k ≤ s.size ∧ i = .int .i64 k ∧ Hid (∀ j (h : j < s.size), j < k → chB j s[j].toNat = true)) (fun i => s.size - (intOf i).toNat)
  case atStart => exact ⟨0, Nat.zero_le _, rfl, fun j _ h => by omega⟩
  case round =>
    obtain ⟨k, hk, rfl, HK⟩ := hrel
    by_cases hlt : k < s.size
    · have hc := HC.out k hlt
      have hb : 0 ≤ (s[k].toNat : Int) ∧ (s[k].toNat : Int) < 256 := ⟨by omega, by have := s[k].toNat_lt; omega⟩
      generalize hcc : (s[k].toNat : Int) = c at hc hb
      have HCC := Lib.hid hcc; clear hcc
      have hyes : chB k c = true → (∃ k_1 : Nat, k_1 ≤ s.size ∧ Value.int IntKind.i64 (↑k + 1) = Value.int IntKind.i64 ↑k_1 ∧ Hid (∀ (j : Nat) (h : j < s.size), j < k_1 → chB j ↑s[j].toNat = true)) := fun hch =>
        ⟨k + 1, by omega, by go_num, fun j hj hjk => by
          by_cases e : j = k
          · subst e; rw [HCC.out]; exact hch
          · exact HK.out j hj (by omega)⟩
      have hno : chB k c = false → nameB s = false := fun hch => nameB_false hlt (by rw [HCC.out]; exact hch)
      have HY := Lib.hid hyes; have HN := Lib.hid hno; clear hyes hno
      go_wp2
      all_goals first
        | (go_ret
           refine ⟨?_, hB⟩
           rw [HN.out (by grind [chB, letterB])]
           rfl)
        | (refine ⟨?_, by simp [intOf]; omega⟩
           first
             | exact HY.out (by grind [chB, letterB])
             | (obtain rfl : k = 0 := by assumption
                exact HY.out (by grind [chB, letterB])))
    · obtain rfl : k = s.size := by omega
      have hall : allB 0 s.data.toList = true := allB_true fun j hj => HK.out j hj hj
      have hE : nameB s = (decide (0 < s.size) && decide (s.size ≤ 12)) := by unfold nameB; rw [hall]; simp
      have HE := Lib.hid hE; clear hE hall
      go_wp2
      · have h0 : s.size = 0 := (toList_empty s).1 (by assumption)
        go_ret
        exact ⟨by rw [HE.out, h0]; rfl, hB⟩
      · have h0 : ¬ s.size = 0 := fun h => absurd ((toList_empty s).2 h) (by assumption)
        have h1 : s.toList.isEmpty = false := by cases hl : s.toList with | nil => exact absurd ((toList_empty s).1 hl) h0 | cons => rfl
        go_ret
        refine ⟨?_, hB⟩
        show Ending.returned (Value.bool _) = _
        rw [HE.out, h1]
        congr 2
        grind

set_option maxHeartbeats 400000 in
theorem tnIsName_any (s : ByteArray) (w : World) (hs : s.size ≤ 1000000000000) :
    Calls Tryz.prog 118 #[.string s] w fun e w' => e = .returned (.bool (nameB s)) ∧ Below w.heap.size w w' := by
  obtain ⟨cap, W1, hconv, hcells, hB⟩ := bytes_of s w
  have HC := Lib.hid hcells; clear hcells
  go_enter Tryz.func118, Tryz.ntmps118
  go_wp2
  clear hconv
  go_loop [9] (fun i => ∃ k : Nat, k ≤ s.size ∧ i = .int .i64 k ∧ Hid (∀ j (h : j < s.size), j < k → chB j s[j].toNat = true)) (fun i => s.size - (intOf i).toNat)
  case atStart => exact ⟨0, Nat.zero_le _, rfl, fun j _ h => by omega⟩
  case round =>
    obtain ⟨k, hk, rfl, HK⟩ := hrel
    by_cases hlt : k < s.size
    · have hc := HC.out k hlt
      have hb : 0 ≤ (s[k].toNat : Int) ∧ (s[k].toNat : Int) < 256 := ⟨by omega, by have := s[k].toNat_lt; omega⟩
      generalize hcc : (s[k].toNat : Int) = c at hc hb
      have HCC := Lib.hid hcc; clear hcc
      have hyes : chB k c = true → (∃ k_1 : Nat, k_1 ≤ s.size ∧ Value.int IntKind.i64 (↑k + 1) = Value.int IntKind.i64 ↑k_1 ∧ Hid (∀ (j : Nat) (h : j < s.size), j < k_1 → chB j ↑s[j].toNat = true)) := fun hch =>
        ⟨k + 1, by omega, by go_num, fun j hj hjk => by
          by_cases e : j = k
          · subst e; rw [HCC.out]; exact hch
          · exact HK.out j hj (by omega)⟩
      have hno : chB k c = false → nameB s = false := fun hch => nameB_false hlt (by rw [HCC.out]; exact hch)
      have HY := Lib.hid hyes; have HN := Lib.hid hno; clear hyes hno
      go_wp2
      all_goals first
        | (go_ret
           refine ⟨?_, hB⟩
           rw [HN.out (by grind [chB, letterB])]
           rfl)
        | (refine ⟨?_, by simp [intOf]; omega⟩
           first
             | exact HY.out (by grind [chB, letterB])
             | (obtain rfl : k = 0 := by assumption
                exact HY.out (by grind [chB, letterB])))
    · obtain rfl : k = s.size := by omega
      have hall : allB 0 s.data.toList = true := allB_true fun j hj => HK.out j hj hj
      have hE : nameB s = (decide (0 < s.size) && decide (s.size ≤ 12)) := by unfold nameB; rw [hall]; simp
      have HE := Lib.hid hE; clear hE hall
      go_wp2
      · have h0 : s.size = 0 := (toList_empty s).1 (by assumption)
        go_ret
        exact ⟨by rw [HE.out, h0]; rfl, hB⟩
      · have h0 : ¬ s.size = 0 := fun h => absurd ((toList_empty s).2 h) (by assumption)
        have h1 : s.toList.isEmpty = false := by cases hl : s.toList with | nil => exact absurd ((toList_empty s).1 hl) h0 | cons => rfl
        go_ret
        refine ⟨?_, hB⟩
        show Ending.returned (Value.bool _) = _
        rw [HE.out, h1]
        congr 2
        grind

end Go.Proofs.YtmdbpkomanhpoaaGreatDoor

namespace Go.Proofs.YtmdbpkomanhpoaaGreatDoor
open Go.RowKit

set_option maxHeartbeats 400000 in
theorem oIsName_any (s : ByteArray) (w : World) (hs : s.size ≤ 1000000000000) :
    Calls Tryz.prog 100 #[.string s] w fun e w' => e = .returned (.bool (nameB s)) ∧ w = w' := by
  go_enter Tryz.func100, Tryz.ntmps100
  go_wp2
  go_loop [8] (fun i => ∃ k : Nat, k ≤ s.size ∧ i = .int .i64 k ∧ Hid (∀ j (h : j < s.size), j < k → chB j s[j].toNat = true)) (fun i => s.size - (intOf i).toNat)
  case atStart => exact ⟨0, Nat.zero_le _, rfl, fun j _ h => by omega⟩
  case round =>
    obtain ⟨k, hk, rfl, HK⟩ := hrel
    by_cases hlt : k < s.size
    · obtain ⟨u, hu⟩ : ∃ u, s[k] = u := ⟨_, rfl⟩
      have hb : 0 ≤ (u.toNat : Int) ∧ (u.toNat : Int) < 256 := ⟨by omega, by have := u.toNat_lt; omega⟩
      have hyes : chB k u.toNat = true → (∃ k_1 : Nat, k_1 ≤ s.size ∧ Value.int IntKind.i64 (↑k + 1) = Value.int IntKind.i64 ↑k_1 ∧ Hid (∀ (j : Nat) (h : j < s.size), j < k_1 → chB j ↑s[j].toNat = true)) := fun hch =>
        ⟨k + 1, by omega, by go_num, fun j hj hjk => by
          by_cases e : j = k
          · subst e; rw [hu]; exact hch
          · exact HK.out j hj (by omega)⟩
      have hno : chB k u.toNat = false → nameB s = false := fun hch => nameB_false hlt (by rw [hu]; exact hch)
      have HY := Lib.hid hyes; have HN := Lib.hid hno; clear hyes hno
      go_wp2
      all_goals clear hu
      all_goals first
        | (go_ret
           refine ⟨?_, rfl⟩
           rw [HN.out (by grind [chB, letterB])]
           rfl)
        | (refine ⟨?_, by simp [intOf]; omega⟩
           first
             | exact HY.out (by grind [chB, letterB])
             | (obtain rfl : k = 0 := by assumption
                exact HY.out (by grind [chB, letterB])))
    · obtain rfl : k = s.size := by omega
      have hall : allB 0 s.data.toList = true := allB_true fun j hj => HK.out j hj hj
      have hE : nameB s = (decide (0 < s.size) && decide (s.size ≤ 12)) := by unfold nameB; rw [hall]; simp
      have HE := Lib.hid hE; clear hE hall
      go_wp2
      · have h0 : s.size = 0 := (toList_empty s).1 (by assumption)
        go_ret
        exact ⟨by rw [HE.out, h0]; rfl, rfl⟩
      · have h0 : ¬ s.size = 0 := fun h => absurd ((toList_empty s).2 h) (by assumption)
        have h1 : s.toList.isEmpty = false := by cases hl : s.toList with | nil => exact absurd ((toList_empty s).1 hl) h0 | cons => rfl
        go_ret
        refine ⟨?_, rfl⟩
        show Ending.returned (Value.bool _) = _
        rw [HE.out, h1]
        congr 2
        grind
set_option maxHeartbeats 400000 in
theorem oWithin_any (n lo hi : Int) (w : World) :
    Calls Tryz.prog 79 #[.int .i64 n, .int .i64 lo, .int .i64 hi] w fun e w' => e = .returned (.bool (wi n lo hi)) ∧ w = w' := by
  go_enter Tryz.func79, Tryz.ntmps79
  go_wp2
  all_goals
    go_ret
    exact ⟨by simp [wi, *]; try omega, rfl⟩

set_option maxHeartbeats 400000 in
theorem tnWithin_any (n lo hi : Int) (w : World) :
    Calls Tryz.prog 121 #[.int .i64 n, .int .i64 lo, .int .i64 hi] w fun e w' => e = .returned (.bool (wi n lo hi)) ∧ w = w' := by
  go_enter Tryz.func121, Tryz.ntmps121
  go_wp2
  all_goals
    go_ret
    exact ⟨by simp [wi, *]; try omega, rfl⟩

set_option maxHeartbeats 400000 in
theorem cdWithin_any (n lo hi : Int) (w : World) :
    Calls Tryz.prog 170 #[.int .i64 n, .int .i64 lo, .int .i64 hi] w fun e w' => e = .returned (.bool (wi n lo hi)) ∧ w = w' := by
  go_enter Tryz.func170, Tryz.ntmps170
  go_wp2
  all_goals
    go_ret
    exact ⟨by simp [wi, *]; try omega, rfl⟩

set_option maxHeartbeats 400000 in
theorem cdIsDecision_any (n : Int) (w : World) :
    Calls Tryz.prog 156 #[.int .i64 n] w fun e w' => e = .returned (.bool (wi n 0 2)) ∧ w = w' := by
  go_enter Tryz.func156, Tryz.ntmps156
  go_wp2_with (go_at_call 170; refine (cdWithin_any _ _ _ _).mono ?_; rintro e w' ⟨rfl, rfl⟩)
  go_ret
  exact ⟨rfl, rfl⟩

end Go.Proofs.YtmdbpkomanhpoaaGreatDoor
