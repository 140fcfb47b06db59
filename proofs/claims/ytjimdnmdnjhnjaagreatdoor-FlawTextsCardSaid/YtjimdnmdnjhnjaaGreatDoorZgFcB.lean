/- Contracts of the two tests whether a text is a name; the tests of marks. Contracts of the package flaw: the error of a mark; gaps, hulls. -/
import Derived.Deep.DeepCutAuto
import Derived.Test.YtjimdnmdnjhnjaaGreatDoorZgFaD
namespace Go.Proofs.YtjimdnmdnjhnjaaGreatDoor
open Go.RowKit

/-! ### names -/
theorem bytesRow_cell (s : ByteArray) (cap k : Nat) (h : k < s.size) : (bytesRow s cap)[k]? = some (.int .u8 (s[k].toNat : Int)) := by
  have h' : k < s.data.size := h
  unfold bytesRow
  rw [Array.getElem?_append_left (by simpa using h'), Array.getElem?_map, Array.getElem?_eq_getElem h']
  rfl

/-- What '[]byte(s)' gives, its world under a name. -/
theorem bytes_of (s : ByteArray) (w : World) : ∃ (cap : Nat) (W1 : World), (convert 9 123 (.string s)).run Tryz.prog w = .ok (.slice (some ⟨w.heap.size, 0, none⟩) s.size cap) W1 ∧
    (∀ k (h : k < s.size), W1.cell? ⟨w.heap.size, k, none⟩ = some (.int .u8 (s[k].toNat : Int))) ∧ Below w.heap.size w W1 := by
  refine ⟨_, _, run_bytes_of_string (P := Tryz.prog) w 9 123 5 s Tryz.underlying9 Tryz.underlying123 Tryz.underlying5, fun k h => ?_, ((Below.refl _ _).drew).alloc (Nat.le_refl _) _⟩
  have hb : ∀ o : Obj, (w.drew.alloc o).heap[w.heap.size]? = some o := fun o => by
    show (w.heap.push o)[w.heap.size]? = _
    simp
  unfold World.cell?
  rw [hb]
  exact bytesRow_cell s _ k h

theorem toList_empty (s : ByteArray) : s.toList = [] ↔ s.size = 0 := by
  rw [toList_nil_iff_emptyBytes]
  constructor
  · rintro rfl; rfl
  · intro h; exact ByteArray.ext (Array.eq_empty_of_size_eq_zero h)

theorem nameB_false {s : ByteArray} {k : Nat} (h : k < s.size) (hc : chB k s[k].toNat = false) : nameB s = false := by
  unfold nameB
  cases hb : allB 0 s.data.toList with
  | false => simp
  | true =>
    have h2 := (allB_iff _ _).1 hb k (by simpa using h)
    rw [Nat.zero_add] at h2
    exact absurd (h2.symm.trans hc) (by simp)
theorem allB_true {s : ByteArray} (h : ∀ k (hk : k < s.size), chB k s[k].toNat = true) : allB 0 s.data.toList = true :=
  (allB_iff _ _).2 fun k hk => by rw [Nat.zero_add]; exact h k (by simpa using hk)

set_option maxHeartbeats 400000 in
theorem isName_any (s : ByteArray) (w : World) (hs : s.size ≤ 1000000000000) :
    Calls Tryz.prog 67 #[.string s] w fun e w' => e = .returned (.bool (nameB s)) ∧ Below w.heap.size w w' := by
  obtain ⟨cap, W1, hconv, hcells, hB⟩ := bytes_of s w
  have HC := Lib.hid hcells; clear hcells
  go_enter Tryz.func67, Tryz.ntmps67
  go_wp2
  clear hconv
  go_loop [9] (fun i => ∃ k : Nat, k ≤ s.size ∧ i = .int .i64 k ∧ Hid (∀ j (h : j < s.size), j < k → chB j s[j].toNat = true)) (fun i => s.size - (intOf i).toNat)
  case atStart => exact ⟨0, Nat.zero_le _, rfl, fun j _ h => by omega⟩
  case round =>
    obtain ⟨k, hk, rfl, HK⟩ := hrel
    by_cases hlt : k < s.size
    · have hc := HC.out k hlt
      have hb : 0 ≤ (s[k].toNat : Int) ∧ (s[k].toNat : Int) < 256 := ⟨by omega, by have := s[k].toNat_lt; omega⟩
      generalize hcc : (s[k].toNat : Int) = c at hc hb
      have HCC := Lib.hid hcc; clear hcc
      have hyes : chB k c = true → (∃ k_1 : Nat, k_1 ≤ s.size ∧ Value.int IntKind.i64 (↑k + 1) = Value.int IntKind.i64 ↑k_1 ∧ Hid (∀ (j : Nat) (h : j < s.size), j < k_1 → chB j ↑s[j].toNat = true)) := fun hch =>
        ⟨k + 1, by omega, by go_num, fun j hj hjk => by
          by_cases e : j = k
          · subst e; rw [HCC.out]; exact hch
          · exact HK.out j hj (by omega)⟩
      have hno : chB k c = false → nameB s = false := fun hch => nameB_false hlt (by rw [HCC.out]; exact hch)
      have HY := Lib.hid hyes; have HN := Lib.hid hno; clear hyes hno
      go_wp2
      all_goals first
        | (go_ret
           refine ⟨?_, hB⟩
           rw [HN.out (by grind [chB, letterB])]
           rfl)
        | (refine ⟨?_, by simp [intOf]; omega⟩
           first
             | exact HY.out (by grind [chB, letterB])
             | (obtain rfl : k = 0 := by assumption
                exact HY.out (by grind [chB, letterB])))
    · obtain rfl : k = s.size := by omega
      have hall : allB 0 s.data.toList = true := allB_true fun j hj => HK.out j hj hj
      have hE : nameB s = (decide (0 < s.size) && decide (s.size ≤ 12)) := by unfold nameB; rw [hall]; simp
      have HE := Lib.hid hE; clear hE hall
      go_wp2
      · have h0 : s.size = 0 := (toList_empty s).1 (by assumption)
        go_ret
        exact ⟨by rw [HE.out, h0]; rfl, hB⟩
      · have h0 : ¬ s.size = 0 := fun h => absurd ((toList_empty s).2 h) (by assumption)
        have h1 : s.toList.isEmpty = false := by cases hl : s.toList with | nil => exact absurd ((toList_empty s).1 hl) h0 | cons => rfl
        go_ret
        refine ⟨?_, hB⟩
        show Ending.returned (Value.bool _) = _
        rw [HE.out, h1]
        congr 2
        grind

set_option maxHeartbeats 400000 in
theorem bIsName_any (s : ByteArray) (w : World) (hs : s.size ≤ 1000000000000) :
    Calls Tryz.prog 29 #[.string s] w fun e w' => e = .returned (.bool (nameB s)) ∧ w = w' := by
  by_cases hbad : s.size < 1 ∨ 12 < s.size
  · have hE : nameB s = false := by unfold nameB; grind
    have HE := Lib.hid hE; clear hE
    go_enter Tryz.func29, Tryz.ntmps29
    go_wp2
    all_goals
      go_ret
      exact ⟨by rw [HE.out]; rfl, rfl⟩
  · have hlo : 1 ≤ s.size := by omega
    have hhi : s.size ≤ 12 := by omega
    have hd1 : decide ((s.size : Int) < 1) = false := by simp; omega
    have hd2 : decide (12 < (s.size : Int)) = false := by simp; omega
    clear hbad
    go_enter Tryz.func29, Tryz.ntmps29
    go_wp2
    go_loop [3] (fun i => ∃ k : Nat, k ≤ s.size ∧ i = .int .i64 k ∧ Hid (∀ j (h : j < s.size), j < k → chB j s[j].toNat = true)) (fun i => s.size - (intOf i).toNat)
    case atStart => exact ⟨0, Nat.zero_le _, rfl, fun j _ h => by omega⟩
    case round =>
      obtain ⟨k, hk, rfl, HK⟩ := hrel
      by_cases hlt : k < s.size
      · obtain ⟨u, hu⟩ : ∃ u, s[k] = u := ⟨_, rfl⟩
        have hb : 0 ≤ (u.toNat : Int) ∧ (u.toNat : Int) < 256 := ⟨by omega, by have := u.toNat_lt; omega⟩
        have hyes : chB k u.toNat = true → (∃ k_1 : Nat, k_1 ≤ s.size ∧ Value.int IntKind.i64 (↑k + 1) = Value.int IntKind.i64 ↑k_1 ∧ Hid (∀ (j : Nat) (h : j < s.size), j < k_1 → chB j ↑s[j].toNat = true)) := fun hch =>
          ⟨k + 1, by omega, by go_num, fun j hj hjk => by
            by_cases e : j = k
            · subst e; rw [hu]; exact hch
            · exact HK.out j hj (by omega)⟩
        have hno : chB k u.toNat = false → nameB s = false := fun hch => nameB_false hlt (by rw [hu]; exact hch)
        have HY := Lib.hid hyes; have HN := Lib.hid hno; clear hyes hno
        go_wp2
        all_goals clear hu
        all_goals first
          | (go_ret
             refine ⟨?_, rfl⟩
             rw [HN.out (by grind [chB, letterB])]
             rfl)
          | (refine ⟨?_, by simp [intOf]; omega⟩
             first
               | exact HY.out (by grind [chB, letterB])
               | (obtain rfl : k = 0 := by assumption
                  exact HY.out (by grind [chB, letterB])))
      · obtain rfl : k = s.size := by omega
        have hall : allB 0 s.data.toList = true := allB_true fun j hj => HK.out j hj hj
        have hE : nameB s = true := by unfold nameB; rw [hall]; grind
        have HE := Lib.hid hE; clear hE hall
        go_wp2
        go_ret
        exact ⟨by rw [HE.out]; rfl, rfl⟩
end Go.Proofs.YtjimdnmdnjhnjaaGreatDoor

namespace Go.Proofs.YtjimdnmdnjhnjaaGreatDoor
open Go.RowKit

/-- A mark. -/
structure Mk where
  nm : ByteArray
  al : Int
  ah : Int
  dl : Int
  dh : Int
  lv : Int
abbrev mkC (m : Mk) : Array Value := #[.string m.nm, .int .i64 m.al, .int .i64 m.ah, .int .i64 m.dl, .int .i64 m.dh, .int .i64 m.lv]
theorem blk6 {w : World} {g t : Nat} {v0 v1 v2 v3 v4 v5 : Value} (h : Blk w g t #[v0, v1, v2, v3, v4, v5]) :
    w.cell? ⟨g, 0, none⟩ = some v0 ∧ w.cell? ⟨g, 1, none⟩ = some v1 ∧ w.cell? ⟨g, 2, none⟩ = some v2 ∧ w.cell? ⟨g, 3, none⟩ = some v3 ∧ w.cell? ⟨g, 4, none⟩ = some v4 ∧ w.cell? ⟨g, 5, none⟩ = some v5 ∧ ∀ i, w.frozen? ⟨g, i, none⟩ = false :=
  ⟨h.cell 0, h.cell 1, h.cell 2, h.cell 3, h.cell 4, h.cell 5, h.frozen⟩
def endsB (m : Mk) : Bool := wi m.al (-1000000) 1000000 && wi m.ah (-1000000) 1000000 && wi m.dl (-1000000) 1000000 && wi m.dh (-1000000) 1000000
def ordB (m : Mk) : Bool := decide (m.al ≤ m.ah) && decide (m.dl ≤ m.dh)
/-- The error of a mark. -/
def markE (m : Mk) : Int := firstE [unlessE (nameB m.nm) 4, unlessE (endsB m) 2, unlessE (ordB m) 9, levelE m.lv]

set_option maxRecDepth 100000 in
set_option maxHeartbeats 1000000 in
theorem markErr_any (m : Mk) (hs : m.nm.size ≤ 1000000000000) (w : World) : Calls Tryz.prog 25 #[.agg (mkC m)] w fun e w' => e = .returned (.int .i64 (markE m)) ∧ Below w.heap.size w w' := by
  have HM : Hid (firstE [unlessE (nameB m.nm) 4, unlessE (endsB m) 2, unlessE (ordB m) 9, levelE m.lv] = markE m) := Lib.hid rfl
  have HC : Hid ((wi m.al (-1000000) 1000000 = false ∧ endsB m = false) ∨ (wi m.al (-1000000) 1000000 = true ∧ wi m.ah (-1000000) 1000000 = false ∧ endsB m = false) ∨ (wi m.al (-1000000) 1000000 = true ∧ wi m.ah (-1000000) 1000000 = true ∧ wi m.dl (-1000000) 1000000 = false ∧ endsB m = false) ∨
      (wi m.al (-1000000) 1000000 = true ∧ wi m.ah (-1000000) 1000000 = true ∧ wi m.dl (-1000000) 1000000 = true ∧ wi m.dh (-1000000) 1000000 = endsB m)) := Lib.hid (by
    unfold endsB
    cases wi m.al (-1000000) 1000000 <;> cases wi m.ah (-1000000) 1000000 <;> cases wi m.dl (-1000000) 1000000 <;> simp)
  have HO : Hid ((¬ m.al ≤ m.ah ∧ ordB m = false) ∨ (m.al ≤ m.ah ∧ decide (m.dl ≤ m.dh) = ordB m)) := Lib.hid (by
    unfold ordB
    by_cases h : m.al ≤ m.ah <;> simp [h])
  go_enter Tryz.func25, Tryz.ntmps25
  have b1 := Blk.new w 25 (mkC m)
  have hBB : Below w.heap.size w (w.alloc (.cells (mkC m) 25)) := (by repeat (first | (with_reducible exact Below.refl _ _) | (with_reducible assumption) | ((with_reducible refine Below.setCell ?_ ?_ _); rotate_left; · (first | exact Nat.le_refl _ | (simp; done) | (simp; omega) | omega)) | ((with_reducible refine Below.alloc ?_ ?_ _); rotate_left; · (first | exact Nat.le_refl _ | (simp; done) | (simp; omega) | omega)) | (with_reducible apply Below.drew) | (with_reducible apply below_drewN') | (refine Below.trans ?_ (Below.mono (by assumption) (by first | exact Nat.le_refl _ | (simp; done) | (simp; omega) | omega))) | exact Below.refl _ _ | assumption))
  obtain ⟨E, hE⟩ : ∃ E, endsB m = E := ⟨_, rfl⟩
  rw [hE] at HM HC
  obtain ⟨O, hO⟩ : ∃ O, ordB m = O := ⟨_, rfl⟩
  rw [hO] at HM HO
  clear hE hO
  obtain ⟨NB, hNB⟩ : ∃ b, nameB m.nm = b := ⟨_, rfl⟩
  rw [hNB] at HM
  have HNB := Lib.hid hNB; clear hNB
  obtain ⟨n0, c1, c2, c3, c4, c5, f0⟩ := blk6 b1
  go_upto_region 1 with fail
  go_cut [3] (fun s3 wx => s3 = .bool E ∧ wx = w.alloc (.cells (mkC m) 25))
  case first =>
    rcases HC.out with ⟨q1, q⟩ | ⟨q1, q2, q⟩ | ⟨q1, q2, q3, q⟩ | ⟨q1, q2, q3, q⟩
    all_goals
      subst q
      clear HC HO HM
      go_wp2_with (go_at_call 66; refine (small_any _ _ (by omega) (by omega) _).mono ?_; rintro e w1 ⟨rfl, rfl⟩)
      go_meet
      exact ⟨by simp [*], rfl⟩
  case rest =>
    obtain ⟨rfl, rfl⟩ := hcut
    obtain ⟨W, hW⟩ : ∃ W, w.alloc (.cells (mkC m) 25) = W := ⟨_, rfl⟩
    rw [hW] at b1 hBB n0 c1 c2 c3 c4 c5 f0 ⊢
    clear hW HC n0 c1 c2 c3 c4 c5 f0
    have l_b1 := b1.lt
    obtain ⟨n0, c1, c2, c3, c4, c5, f0⟩ := blk6 b1
    rcases HO.out with ⟨ho, q⟩ | ⟨ho, q⟩
    · subst q
      clear HO
      replace ho : (m.al ≤ m.ah) = False := by simp; omega
      go_wp2_with fail
      refine wp_region_b 26 (by kernel_rfl) (by kernel_rfl) ?_; simp only [List.take, List.drop]
      repeat (first
        | (apply StepsD.run
           · go_simp
             done
           · intro w' hS K hK
             have hc := (bcell hS).1
             have hf := (bcell hS).2
             have hz := hS.size
             try simp at hz
             go_simp
             try go_bits
             first
               | exact hK _ hS
               | (go_at_call 67; (with_reducible refine (isName_any _ _ hs).mono ?_); rw [HNB.out]; rintro e w1 ⟨rfl, hB1⟩; obtain ⟨hc1, hf1⟩ := bcell hB1; have hz1 := hB1.size; (try simp at hz1); exact hK _ (Below.trans hS (Below.mono hB1 (by first | exact Nat.le_refl _ | (simp; done) | (simp; omega) | omega))))
               | (go_at_call 37; (with_reducible refine (unless_any _ _ _).mono ?_); rintro e w1 ⟨rfl, rfl⟩; exact hK _ hS)
               | (go_at_call 68; (with_reducible refine (levelErr_any _ _).mono ?_); rintro e w1 ⟨rfl, rfl⟩; exact hK _ hS)
               | exact hK _ (by repeat (first | (with_reducible exact Below.refl _ _) | (with_reducible assumption) | ((with_reducible refine Below.setCell ?_ ?_ _); rotate_left; · (first | exact Nat.le_refl _ | (simp; done) | (simp; omega) | omega)) | ((with_reducible refine Below.alloc ?_ ?_ _); rotate_left; · (first | exact Nat.le_refl _ | (simp; done) | (simp; omega) | omega)) | (with_reducible apply Below.drew) | (with_reducible apply below_drewN') | (refine Below.trans ?_ (Below.mono (by assumption) (by first | exact Nat.le_refl _ | (simp; done) | (simp; omega) | omega))) | exact Below.refl _ _ | assumption))
           · simp [Act.put]
             done)
        | (apply StepsD.pass
           · go_simp
             done
           · simp only [Act.put, List.setIfInBounds_toArray, List.set_cons_succ, List.set_cons_zero]
             rfl))
      refine StepsD.done ?_
      intro w1 hS
      replace b1 := b1.gr hS
      replace hBB := hBB.trans (Below.mono hS (Below.size hBB))
      clear hS
      clear l_b1 n0 c1 c2 c3 c4 c5 f0
      have l_b1 := b1.lt
      obtain ⟨n0, c1, c2, c3, c4, c5, f0⟩ := blk6 b1
      go_wp2_with fail
      refine (first4_any _ _ _ _ _ _).mono ?_
      rw [HM.out]
      rintro e wc1 ⟨rfl, hBc1⟩
      replace b1 := b1.gr hBc1
      replace hBB := hBB.trans (Below.mono hBc1 (Below.size hBB))
      clear hBc1
      clear l_b1 n0 c1 c2 c3 c4 c5 f0
      have l_b1 := b1.lt
      obtain ⟨n0, c1, c2, c3, c4, c5, f0⟩ := blk6 b1
      go_wp2
      go_ret
      exact ⟨rfl, hBB⟩
    · subst q
      clear HO
      by_cases hd : m.dl ≤ m.dh
      all_goals
        go_wp2_with fail
        refine wp_region_b 26 (by kernel_rfl) (by kernel_rfl) ?_; simp only [List.take, List.drop]
        repeat (first
          | (apply StepsD.run
             · go_simp
               done
             · intro w' hS K hK
               have hc := (bcell hS).1
               have hf := (bcell hS).2
               have hz := hS.size
               try simp at hz
               go_simp
               try go_bits
               first
                 | exact hK _ hS
                 | (go_at_call 67; (with_reducible refine (isName_any _ _ hs).mono ?_); rw [HNB.out]; rintro e w1 ⟨rfl, hB1⟩; obtain ⟨hc1, hf1⟩ := bcell hB1; have hz1 := hB1.size; (try simp at hz1); exact hK _ (Below.trans hS (Below.mono hB1 (by first | exact Nat.le_refl _ | (simp; done) | (simp; omega) | omega))))
                 | (go_at_call 37; (with_reducible refine (unless_any _ _ _).mono ?_); rintro e w1 ⟨rfl, rfl⟩; exact hK _ hS)
                 | (go_at_call 68; (with_reducible refine (levelErr_any _ _).mono ?_); rintro e w1 ⟨rfl, rfl⟩; exact hK _ hS)
                 | exact hK _ (by repeat (first | (with_reducible exact Below.refl _ _) | (with_reducible assumption) | ((with_reducible refine Below.setCell ?_ ?_ _); rotate_left; · (first | exact Nat.le_refl _ | (simp; done) | (simp; omega) | omega)) | ((with_reducible refine Below.alloc ?_ ?_ _); rotate_left; · (first | exact Nat.le_refl _ | (simp; done) | (simp; omega) | omega)) | (with_reducible apply Below.drew) | (with_reducible apply below_drewN') | (refine Below.trans ?_ (Below.mono (by assumption) (by first | exact Nat.le_refl _ | (simp; done) | (simp; omega) | omega))) | exact Below.refl _ _ | assumption))
             · simp [Act.put]
               done)
          | (apply StepsD.pass
             · go_simp
               done
             · simp only [Act.put, List.setIfInBounds_toArray, List.set_cons_succ, List.set_cons_zero]
               rfl))
        refine StepsD.done ?_
        intro w1 hS
        replace b1 := b1.gr hS
        replace hBB := hBB.trans (Below.mono hS (Below.size hBB))
        clear hS
        clear l_b1 n0 c1 c2 c3 c4 c5 f0
        have l_b1 := b1.lt
        obtain ⟨n0, c1, c2, c3, c4, c5, f0⟩ := blk6 b1
        go_wp2_with fail
        refine (first4_any _ _ _ _ _ _).mono ?_
        rintro e w2 ⟨rfl, hB2⟩
        replace hBB := hBB.trans (Below.mono hB2 (Below.size hBB))
        go_wp2
        go_ret
        exact ⟨by rw [← HM.out]; simp [hd], hBB⟩
end Go.Proofs.YtjimdnmdnjhnjaaGreatDoor
