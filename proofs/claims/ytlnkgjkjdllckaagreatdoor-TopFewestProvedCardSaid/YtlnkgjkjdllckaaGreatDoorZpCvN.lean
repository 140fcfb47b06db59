/- Contracts of the two tests whether a text is a name. -/
import Derived.Test.YtlnkgjkjdllckaaGreatDoorZpCvA
namespace Go.Proofs.YtlnkgjkjdllckaaGreatDoor
open Go.RowKit

/-! ### names -/
theorem bytesRow_cell (s : ByteArray) (cap k : Nat) (h : k < s.size) : (bytesRow s cap)[k]? = some (.int .u8 (s[k].toNat : Int)) := by
  have h' : k < s.data.size := h
  unfold bytesRow
  rw [Array.getElem?_append_left (by simpa using h'), Array.getElem?_map, Array.getElem?_eq_getElem h']
  rfl

/-- What '[]byte(s)' gives, its world under a name. -/
theorem bytes_of (s : ByteArray) (w : World) : ∃ (cap : Nat) (W1 : World), (convert 9 177 (.string s)).run Tryz.prog w = .ok (.slice (some ⟨w.heap.size, 0, none⟩) s.size cap) W1 ∧
    (∀ k (h : k < s.size), W1.cell? ⟨w.heap.size, k, none⟩ = some (.int .u8 (s[k].toNat : Int))) ∧ Below w.heap.size w W1 := by
  refine ⟨_, _, run_bytes_of_string (P := Tryz.prog) w 9 177 5 s Tryz.underlying9 Tryz.underlying177 Tryz.underlying5, fun k h => ?_, ((Below.refl _ _).drew).alloc (Nat.le_refl _) _⟩
  have hb : ∀ o : Obj, (w.drew.alloc o).heap[w.heap.size]? = some o := fun o => by
    show (w.heap.push o)[w.heap.size]? = _
    simp
  unfold World.cell?
  rw [hb]
  exact bytesRow_cell s _ k h

theorem toList_empty (s : ByteArray) : s.toList = [] ↔ s.size = 0 := by
  rw [toList_nil_iff_emptyBytes]
  constructor
  · rintro rfl; rfl
  · intro h; exact ByteArray.ext (Array.eq_empty_of_size_eq_zero h)

theorem nameB_false {s : ByteArray} {k : Nat} (h : k < s.size) (hc : chB k s[k].toNat = false) : nameB s = false := by
  unfold nameB
  cases hb : allB 0 s.data.toList with
  | false => simp
  | true =>
    have h2 := (allB_iff _ _).1 hb k (by simpa using h)
    rw [Nat.zero_add] at h2
    exact absurd (h2.symm.trans hc) (by simp)
theorem allB_true {s : ByteArray} (h : ∀ k (hk : k < s.size), chB k s[k].toNat = true) : allB 0 s.data.toList = true :=
  (allB_iff _ _).2 fun k hk => by rw [Nat.zero_add]; exact h k (by simpa using hk)

set_option maxHeartbeats 400000 in
theorem isName_any (s : ByteArray) (w : World) (hs : s.size ≤ 1000000000000) :
    Calls Tryz.prog 91 #[.string s] w fun e w' => e = .returned (.bool (nameB s)) ∧ Below w.heap.size w w' := by
  obtain ⟨cap, W1, hconv, hcells, hB⟩ := bytes_of s w
  have HC := Lib.hid hcells; clear hcells
  go_enter Tryz.func91, Tryz.ntmps91
  go_wp2
  clear hconv
  go_loop [9] (fun i => ∃ k : Nat, k ≤ s.size ∧ i = .int .i64 k ∧ Hid (∀ j (h : j < s.size), j < k → chB j s[j].toNat = true)) (fun i => s.size - (intOf i).toNat)
  case atStart => exact ⟨0, Nat.zero_le _, rfl, fun j _ h => by omega⟩
  case round =>
    obtain ⟨k, hk, rfl, HK⟩ := hrel
    by_cases hlt : k < s.size
    · have hc := HC.out k hlt
      have hb : 0 ≤ (s[k].toNat : Int) ∧ (s[k].toNat : Int) < 256 := ⟨by omega, by have := s[k].toNat_lt; omega⟩
      generalize hcc : (s[k].toNat : Int) = c at hc hb
      have HCC := Lib.hid hcc; clear hcc
      have hyes : chB k c = true → (∃ k_1 : Nat, k_1 ≤ s.size ∧ Value.int IntKind.i64 (↑k + 1) = Value.int IntKind.i64 ↑k_1 ∧ Hid (∀ (j : Nat) (h : j < s.size), j < k_1 → chB j ↑s[j].toNat = true)) := fun hch =>
        ⟨k + 1, by omega, by go_num, fun j hj hjk => by
          by_cases e : j = k
          · subst e; rw [HCC.out]; exact hch
          · exact HK.out j hj (by omega)⟩
      have hno : chB k c = false → nameB s = false := fun hch => nameB_false hlt (by rw [HCC.out]; exact hch)
      have HY := Lib.hid hyes; have HN := Lib.hid hno; clear hyes hno
      go_wp2
      all_goals first
        | (go_ret
           refine ⟨?_, hB⟩
           rw [HN.out (by grind [chB, letterB])]
           rfl)
        | (refine ⟨?_, by simp [intOf]; omega⟩
           first
             | exact HY.out (by grind [chB, letterB])
             | (obtain rfl : k = 0 := by assumption
                exact HY.out (by grind [chB, letterB])))
    · obtain rfl : k = s.size := by omega
      have hall : allB 0 s.data.toList = true := allB_true fun j hj => HK.out j hj hj
      have hE : nameB s = (decide (0 < s.size) && decide (s.size ≤ 12)) := by unfold nameB; rw [hall]; simp
      have HE := Lib.hid hE; clear hE hall
      go_wp2
      · have h0 : s.size = 0 := (toList_empty s).1 (by assumption)
        go_ret
        exact ⟨by rw [HE.out, h0]; rfl, hB⟩
      · have h0 : ¬ s.size = 0 := fun h => absurd ((toList_empty s).2 h) (by assumption)
        have h1 : s.toList.isEmpty = false := by cases hl : s.toList with | nil => exact absurd ((toList_empty s).1 hl) h0 | cons => rfl
        go_ret
        refine ⟨?_, hB⟩
        show Ending.returned (Value.bool _) = _
        rw [HE.out, h1]
        congr 2
        grind

set_option maxHeartbeats 400000 in
theorem bIsName_any (s : ByteArray) (w : World) (hs : s.size ≤ 1000000000000) :
    Calls Tryz.prog 41 #[.string s] w fun e w' => e = .returned (.bool (nameB s)) ∧ w = w' := by
  by_cases hbad : s.size < 1 ∨ 12 < s.size
  · have hE : nameB s = false := by unfold nameB; grind
    have HE := Lib.hid hE; clear hE
    go_enter Tryz.func41, Tryz.ntmps41
    go_wp2
    all_goals
      go_ret
      exact ⟨by rw [HE.out]; rfl, rfl⟩
  · have hlo : 1 ≤ s.size := by omega
    have hhi : s.size ≤ 12 := by omega
    have hd1 : decide ((s.size : Int) < 1) = false := by simp; omega
    have hd2 : decide (12 < (s.size : Int)) = false := by simp; omega
    clear hbad
    go_enter Tryz.func41, Tryz.ntmps41
    go_wp2
    go_loop [3] (fun i => ∃ k : Nat, k ≤ s.size ∧ i = .int .i64 k ∧ Hid (∀ j (h : j < s.size), j < k → chB j s[j].toNat = true)) (fun i => s.size - (intOf i).toNat)
    case atStart => exact ⟨0, Nat.zero_le _, rfl, fun j _ h => by omega⟩
    case round =>
      obtain ⟨k, hk, rfl, HK⟩ := hrel
      by_cases hlt : k < s.size
      · obtain ⟨u, hu⟩ : ∃ u, s[k] = u := ⟨_, rfl⟩
        have hb : 0 ≤ (u.toNat : Int) ∧ (u.toNat : Int) < 256 := ⟨by omega, by have := u.toNat_lt; omega⟩
        have hyes : chB k u.toNat = true → (∃ k_1 : Nat, k_1 ≤ s.size ∧ Value.int IntKind.i64 (↑k + 1) = Value.int IntKind.i64 ↑k_1 ∧ Hid (∀ (j : Nat) (h : j < s.size), j < k_1 → chB j ↑s[j].toNat = true)) := fun hch =>
          ⟨k + 1, by omega, by go_num, fun j hj hjk => by
            by_cases e : j = k
            · subst e; rw [hu]; exact hch
            · exact HK.out j hj (by omega)⟩
        have hno : chB k u.toNat = false → nameB s = false := fun hch => nameB_false hlt (by rw [hu]; exact hch)
        have HY := Lib.hid hyes; have HN := Lib.hid hno; clear hyes hno
        go_wp2
        all_goals clear hu
        all_goals first
          | (go_ret
             refine ⟨?_, rfl⟩
             rw [HN.out (by grind [chB, letterB])]
             rfl)
          | (refine ⟨?_, by simp [intOf]; omega⟩
             first
               | exact HY.out (by grind [chB, letterB])
               | (obtain rfl : k = 0 := by assumption
                  exact HY.out (by grind [chB, letterB])))
      · obtain rfl : k = s.size := by omega
        have hall : allB 0 s.data.toList = true := allB_true fun j hj => HK.out j hj hj
        have hE : nameB s = true := by unfold nameB; rw [hall]; grind
        have HE := Lib.hid hE; clear hE hall
        go_wp2
        go_ret
        exact ⟨by rw [HE.out]; rfl, rfl⟩
end Go.Proofs.YtlnkgjkjdllckaaGreatDoor
