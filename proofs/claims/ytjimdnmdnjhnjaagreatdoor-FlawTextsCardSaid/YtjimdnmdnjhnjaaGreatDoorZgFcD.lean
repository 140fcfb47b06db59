/- Contracts of the package flaw: the error of marks. Contracts of the package flaw: rules, gaps, hulls, interaction. -/
import Derived.Test.YtjimdnmdnjhnjaaGreatDoorZgFcB
import Derived.Test.YtjimdnmdnjhnjaaGreatDoorZgFaE
import Derived.Test.YtjimdnmdnjhnjaaGreatDoorZgFaH
namespace Go.Proofs.YtjimdnmdnjhnjaaGreatDoor
open Go.RowKit

def mksC (l : List Mk) : List Value := l.flatMap fun m => (mkC m).toList
theorem mksC_length (l : List Mk) : (mksC l).length = l.length * 6 := by
  induction l with
  | nil => rfl
  | cons p l ih => simp only [mksC, List.flatMap_cons, List.length_append] at ih ⊢; rw [ih]; simp; omega
theorem mksC_get : ∀ (l : List Mk) (k : Nat) (m : Mk), l[k]? = some m →
    (mksC l)[k * 6]? = some (.string m.nm) ∧ (mksC l)[k * 6 + 1]? = some (.int .i64 m.al) ∧ (mksC l)[k * 6 + 2]? = some (.int .i64 m.ah) ∧ (mksC l)[k * 6 + 3]? = some (.int .i64 m.dl) ∧ (mksC l)[k * 6 + 4]? = some (.int .i64 m.dh) ∧ (mksC l)[k * 6 + 5]? = some (.int .i64 m.lv)
  | [], k, p, h => by simp at h
  | q :: l, 0, p, h => by obtain rfl : q = p := by simpa using h
                          exact ⟨rfl, rfl, rfl, rfl, rfl, rfl⟩
  | q :: l, k + 1, p, h => by
    have ih := mksC_get l k p (by simpa using h)
    have e : ∀ j, (mksC (q :: l))[(k + 1) * 6 + j]? = (mksC l)[k * 6 + j]? := fun j => by
      rw [show (k + 1) * 6 + j = (k * 6 + j) + 6 by omega]; rfl
    exact ⟨(e 0).trans ih.1, (e 1).trans ih.2.1, (e 2).trans ih.2.2.1, (e 3).trans ih.2.2.2.1, (e 4).trans ih.2.2.2.2.1, (e 5).trans ih.2.2.2.2.2⟩
theorem mkCells {w : World} {B : Nat} {A : Option Addr} {l : List Mk} (h : Row w B 6 A l.length (mksC l)) {k : Nat} (hk : k < l.length) :
    ∃ g o, A = some ⟨g, o, none⟩ ∧ g < B ∧ w.cell? ⟨g, o + k * 6, none⟩ = some (.string l[k].nm) ∧ w.cell? ⟨g, o + k * 6 + 1, none⟩ = some (.int .i64 l[k].al) ∧ w.cell? ⟨g, o + k * 6 + 2, none⟩ = some (.int .i64 l[k].ah) ∧ w.cell? ⟨g, o + k * 6 + 3, none⟩ = some (.int .i64 l[k].dl) ∧
      w.cell? ⟨g, o + k * 6 + 4, none⟩ = some (.int .i64 l[k].dh) ∧ w.cell? ⟨g, o + k * 6 + 5, none⟩ = some (.int .i64 l[k].lv) := by
  obtain ⟨g, o, hA, hb, hc⟩ := h.2 (by omega)
  obtain ⟨g0, g1, g2, g3, g4, g5⟩ := mksC_get l k l[k] (List.getElem?_eq_getElem hk)
  exact ⟨g, o, hA, hb, hc _ _ g0, hc _ _ g1, hc _ _ g2, hc _ _ g3, hc _ _ g4, hc _ _ g5⟩

theorem row_take {w : World} {B k : Nat} {A : Option Addr} {l : List Mk} (h : Row w B 6 A l.length (mksC l)) (hk : k ≤ l.length) : Row w B 6 A (l.take k).length (mksC (l.take k)) := by
  have hlen : (l.take k).length = k := by simp; omega
  refine ⟨mksC_length _, fun h0 => ?_⟩
  obtain ⟨g, o, hA, hb, hc⟩ := h.2 (by omega)
  refine ⟨g, o, hA, hb, fun j u hj => hc j u ?_⟩
  have e : mksC l = mksC (l.take k) ++ mksC (l.drop k) := by
    unfold mksC; rw [← List.flatMap_append, List.take_append_drop]
  rw [e, List.getElem?_append_left (List.getElem?_eq_some_iff.1 hj).1]; exact hj

set_option maxHeartbeats 400000 in
theorem sameName_any (m : Mk) (nm' : ByteArray) (b : Nat) (w : World) (hc : w.cell? ⟨b, 0, none⟩ = some (.string nm')) :
    Calls Tryz.prog 111 #[.agg (mkC m), .pointer (some ⟨b, 0, none⟩)] w fun e w' => e = .returned (.bool (sameB m.nm nm')) ∧ Below w.heap.size w w' := by
  have hlt := World.block_lt_of_cell? _ _ hc
  go_enter Tryz.func111, Tryz.ntmps111
  go_wp2
  go_ret
  exact ⟨rfl, (by repeat (first | (with_reducible exact Below.refl _ _) | (with_reducible assumption) | ((with_reducible refine Below.setCell ?_ ?_ _); rotate_left; · (first | exact Nat.le_refl _ | (simp; done) | (simp; omega) | omega)) | ((with_reducible refine Below.alloc ?_ ?_ _); rotate_left; · (first | exact Nat.le_refl _ | (simp; done) | (simp; omega) | omega)) | (with_reducible apply Below.drew) | (with_reducible apply below_drewN') | (refine Below.trans ?_ (Below.mono (by assumption) (by first | exact Nat.le_refl _ | (simp; done) | (simp; omega) | omega))) | exact Below.refl _ _ | assumption))⟩

set_option maxHeartbeats 400000 in
theorem indexName_any (l : List Mk) (A : Option Addr) (c : Nat) (nm' : ByteArray) (b B : Nat) (w : World) (hn : l.length ≤ 1000000) (hR : Row w B 6 A l.length (mksC l)) (hB : B ≤ w.heap.size) (hc : w.cell? ⟨b, 0, none⟩ = some (.string nm')) :
    Calls Tryz.prog 143 #[.slice A l.length c, .func (.func 111) #[] #[.pointer (some ⟨b, 0, none⟩)]] w fun e w' => ∃ r : Int, e = .returned (.int .i64 r) ∧ Hid (decide (0 ≤ r) = l.any fun p => sameB p.nm nm') ∧ Below w.heap.size w w' := by
  go_enter Tryz.func143, Tryz.ntmps143
  go_wp2
  go_loopw [8] (fun i wr => ∃ k : Nat, k ≤ l.length ∧ i = .int .i64 k ∧ Hid ((l.take k).any (fun p => sameB p.nm nm') = false) ∧ Below w.heap.size w wr) (fun i _ => l.length - (intOf i).toNat)
  case atStart => exact ⟨0, Nat.zero_le _, rfl, rfl, Below.refl _ _⟩
  case round =>
    obtain ⟨k, hk, rfl, HI, hB'⟩ := hrel
    by_cases hlt : k < l.length
    · obtain ⟨g, o, hA, hg, c0, c1, c2, c3, c4, c5⟩ := mkCells (hR.below hB' hB) hlt
      subst hA
      have hcb := (hB'.cell (p := ⟨b, 0, none⟩) (World.block_lt_of_cell? _ _ hc)).trans hc
      cases hs : sameB l[k].nm nm'
      · have HS := Lib.hid hs; clear hs
        go_wp2_with fail
        refine (sameName_any l[k] nm' b _ hcb).mono ?_
        rw [HS.out]
        rintro e w1 ⟨rfl, hB1⟩; obtain ⟨hc1, hf1⟩ := bcell hB1; have hz1 := hB1.size; (try simp at hz1)
        go_wp2
        refine ⟨⟨k + 1, by omega, by go_num, by rw [any_take_snoc _ _ hlt, HI.out, HS.out]; rfl, Below.trans hB' (hB1.mono (Below.size hB'))⟩, by simp [intOf]; omega⟩
      · have HS := Lib.hid hs; clear hs
        go_wp2_with fail
        refine (sameName_any l[k] nm' b _ hcb).mono ?_
        rw [HS.out]
        rintro e w1 ⟨rfl, hB1⟩; obtain ⟨hc1, hf1⟩ := bcell hB1; have hz1 := hB1.size; (try simp at hz1)
        go_wp2
        go_ret
        exact ⟨_, rfl, Lib.hid (by rw [any_of_take _ _ hlt _ HS.out]; simp), Below.trans hB' (hB1.mono (Below.size hB'))⟩
    · obtain rfl : k = l.length := by omega
      go_wp2
      go_ret
      exact ⟨_, rfl, by rw [List.take_length] at HI; rw [HI.out]; rfl, hB'⟩

set_option maxHeartbeats 400000 in
theorem hasName_any (l : List Mk) (A : Option Addr) (c : Nat) (nm' : ByteArray) (b B : Nat) (w : World) (hn : l.length ≤ 1000000) (hR : Row w B 6 A l.length (mksC l)) (hB : B ≤ w.heap.size) (hc : w.cell? ⟨b, 0, none⟩ = some (.string nm')) :
    Calls Tryz.prog 110 #[.slice A l.length c, .func (.func 111) #[] #[.pointer (some ⟨b, 0, none⟩)]] w fun e w' => e = .returned (.bool (l.any fun p => sameB p.nm nm')) ∧ Below w.heap.size w w' := by
  go_enter Tryz.func110, Tryz.ntmps110
  go_wp2_with fail
  refine (indexName_any l A c nm' b B _ hn hR hB hc).mono ?_
  rintro e w1 ⟨r, rfl, HR, hB1⟩
  go_wp2
  go_ret
  exact ⟨by rw [← HR.out]; rfl, hB1⟩

/-- The error of marks, with a number. -/
def marksE' : Int → List Mk → List Mk → Int × Int
  | _, _, [] => (0, 0)
  | i, b, m :: l => if markE m ≠ 0 then (i, markE m) else if b.any (fun p => sameB p.nm m.nm) then (i, 5) else marksE' (i + 1) (b ++ [m]) l
def marksE (l : List Mk) : Int × Int := if 20 < l.length then (0, 8) else marksE' 0 [] l
/-- The first k marks are right. -/
def MarksTo (l : List Mk) (k : Nat) : Prop := ∀ j (h : j < l.length), j < k → markE l[j] = 0 ∧ (l.take j).any (fun p => sameB p.nm l[j].nm) = false
theorem marksE'_to (l : List Mk) : ∀ k, k ≤ l.length → MarksTo l k → marksE' 0 [] l = marksE' k (l.take k) (l.drop k)
  | 0, _, _ => by simp
  | k + 1, hk, h => by
    rw [marksE'_to l k (by omega) (fun j hj hjk => h j hj (by omega)), List.drop_eq_getElem_cons (show k < l.length by omega)]
    obtain ⟨h1, h2⟩ := h k (by omega) (by omega)
    show (if markE l[k] ≠ 0 then _ else if (l.take k).any (fun p => sameB p.nm l[k].nm) then _ else _) = _
    rw [if_neg (by simpa using h1), h2, if_neg (by simp), List.take_succ_eq_append_getElem (show k < l.length by omega)]
    simp
theorem marksE_bad {l : List Mk} {k : Nat} (hl : l.length ≤ 20) (hk : k < l.length) (h : MarksTo l k) (he : markE l[k] ≠ 0) : marksE l = ((k : Int), markE l[k]) := by
  unfold marksE
  rw [if_neg (by omega), marksE'_to l k (by omega) h, List.drop_eq_getElem_cons hk]
  show (if markE l[k] ≠ 0 then _ else _) = _
  rw [if_pos he]
theorem marksE_twice {l : List Mk} {k : Nat} (hl : l.length ≤ 20) (hk : k < l.length) (h : MarksTo l k) (he : markE l[k] = 0) (hs : (l.take k).any (fun p => sameB p.nm l[k].nm) = true) : marksE l = ((k : Int), 5) := by
  unfold marksE
  rw [if_neg (by omega), marksE'_to l k (by omega) h, List.drop_eq_getElem_cons hk]
  show (if markE l[k] ≠ 0 then _ else if (l.take k).any (fun p => sameB p.nm l[k].nm) then _ else _) = _
  rw [if_neg (by simpa using he), hs, if_pos rfl]
theorem marksE_end {l : List Mk} (hl : l.length ≤ 20) (h : MarksTo l l.length) : marksE l = (0, 0) := by
  unfold marksE
  rw [if_neg (by omega), marksE'_to l l.length (Nat.le_refl _) h, List.drop_length]; rfl
theorem MarksTo.step {l : List Mk} {k : Nat} (hk : k < l.length) (h : MarksTo l k) (he : markE l[k] = 0) (hs : (l.take k).any (fun p => sameB p.nm l[k].nm) = false) : MarksTo l (k + 1) := by
  intro j hj hjk
  by_cases e : j = k
  · subst e; exact ⟨he, hs⟩
  · exact h j hj (by omega)

/-- The marks that a slice holds. -/
structure MkOk (l : List Mk) (A : Option Addr) (B : Nat) (w : World) : Prop where
  len : l.length ≤ 1000000000
  row : Row w B 6 A l.length (mksC l)
  size : ∀ m ∈ l, m.nm.size ≤ 1000000000000
theorem MkOk.below {l : List Mk} {A : Option Addr} {B C : Nat} {w w' : World} (h : MkOk l A B w) (hb : Below C w w') (hC : B ≤ C) : MkOk l A B w' :=
  ⟨h.len, h.row.below hb hC, h.size⟩

set_option maxRecDepth 100000 in
set_option maxHeartbeats 1000000 in
theorem checkMarks_any (l : List Mk) (A : Option Addr) (c B : Nat) (w : World) (hl : MkOk l A B w) (hcap : l.length ≤ c) (hB : B ≤ w.heap.size) :
    Calls Tryz.prog 75 #[.slice A l.length c] w fun e w' => e = .returned (.tuple #[.int .i64 (marksE l).1, .int .i64 (marksE l).2]) ∧ Below w.heap.size w w' := by
  have hn := hl.len
  by_cases h6 : 20 < l.length
  · have HE : Hid (marksE l = (0, 8)) := Lib.hid (by unfold marksE; rw [if_pos h6])
    have h6' : decide ((20 : Int) < (l.length : Int)) = true := by simp; omega
    go_enter Tryz.func75, Tryz.ntmps75
    go_wp2
    go_ret2
    exact ⟨by rw [HE.out]; rfl, (by repeat (first | (with_reducible exact Below.refl _ _) | (with_reducible assumption) | ((with_reducible refine Below.setCell ?_ ?_ _); rotate_left; · (first | exact Nat.le_refl _ | (simp; done) | (simp; omega) | omega)) | ((with_reducible refine Below.alloc ?_ ?_ _); rotate_left; · (first | exact Nat.le_refl _ | (simp; done) | (simp; omega) | omega)) | (with_reducible apply Below.drew) | (with_reducible apply below_drewN') | (refine Below.trans ?_ (Below.mono (by assumption) (by first | exact Nat.le_refl _ | (simp; done) | (simp; omega) | omega))) | exact Below.refl _ _ | assumption))⟩
  · have h6' : l.length ≤ 20 := by omega
    clear h6
    go_enter Tryz.func75, Tryz.ntmps75
    go_wp2
    go_loopw [12] (fun i wr => ∃ k : Nat, k ≤ l.length ∧ i = .int .i64 k ∧ Hid (MarksTo l k) ∧ Below w.heap.size w wr) (fun i _ => l.length - (intOf i).toNat)
    case atStart => exact ⟨0, Nat.zero_le _, rfl, Lib.hid (fun j _ hj => absurd hj (by omega)), Below.refl _ _⟩
    case round =>
      obtain ⟨k, hk, rfl, HI, hBB⟩ := hrel
      have hl' := hl.below hBB hB
      have hzb := Below.size hBB
      by_cases hlt : k < l.length
      · obtain ⟨g, o, hA, hg, c0, c1, c2, c3, c4, c5⟩ := mkCells hl'.row hlt
        have hms := hl'.size l[k] (List.getElem_mem hlt)
        have hR := row_take hl'.row (Nat.le_of_lt hlt)
        have hRl : (l.take k).length = k := by simp; omega
        have HBAD : Hid (markE l[k] ≠ 0 → marksE l = ((k : Int), markE l[k])) := Lib.hid (fun he => marksE_bad h6' hlt HI.out he)
        have HTW : Hid (markE l[k] = 0 → (l.take k).any (fun p => sameB p.nm l[k].nm) = true → marksE l = ((k : Int), 5)) := Lib.hid (fun he hs => marksE_twice h6' hlt HI.out he hs)
        have HST : Hid (markE l[k] = 0 → (l.take k).any (fun p => sameB p.nm l[k].nm) = false → MarksTo l (k + 1)) := Lib.hid (fun he hs => HI.out.step hlt he hs)
        obtain ⟨T, hT⟩ : ∃ T, (l.take k).any (fun p => sameB p.nm l[k].nm) = T := ⟨_, rfl⟩
        have HT := Lib.hid hT; clear hT
        rw [HT.out] at HTW HST
        generalize l[k] = m at *
        subst hA
        have b5 := Blk.new wr 25 (mkC m)
        obtain ⟨E, hE⟩ : ∃ E, markE m = E := ⟨_, rfl⟩
        rw [hE] at HBAD HTW HST
        have HE := Lib.hid hE; clear hE
        go_wp2_with fail
        refine (markErr_any m hms _).mono ?_
        rw [HE.out]
        rintro e w1 ⟨rfl, hB1⟩
        replace b5 := b5.gr hB1
        have hb0 := b5.cell 0
        have hB2 : Below wr.heap.size wr w1 := Below.trans ((Below.refl _ wr).alloc (Nat.le_refl _) (.cells (mkC m) 25)) (Below.mono hB1 (by simp))
        replace hBB := hBB.trans (Below.mono hB2 hzb)
        clear hB1
        by_cases h0 : E = 0
        · subst h0
          replace hR := hR.below hB2 (by omega)
          have hw1 := Below.size hB2
          go_wp2_with fail
          have hcall := hasName_any (l.take k) (some ⟨g, o, none⟩) c m.nm wr.heap.size B w1 (by omega) hR (by omega) hb0
          rw [hRl, HT.out] at hcall
          refine hcall.mono ?_
          rintro e w2 ⟨rfl, hB3⟩
          replace hBB := hBB.trans (Below.mono hB3 (Below.size hBB))
          clear hcall hB3
          cases T
          · have HX := Lib.hid (HST.out (by trivial) (by trivial))
            go_wp2
            refine ⟨⟨k + 1, by omega, by go_num, HX, hBB⟩, by simp [intOf]; omega⟩
          · have HX := Lib.hid (HTW.out (by trivial) (by trivial))
            go_wp2
            go_ret2
            exact ⟨by rw [HX.out]; rfl, hBB⟩
        · have h0' : (E != 0) = true := by simpa using h0
          have HX := Lib.hid (HBAD.out h0)
          go_wp2
          go_ret2
          exact ⟨by rw [HX.out]; rfl, hBB⟩
      · obtain rfl : k = l.length := by omega
        have HE : Hid (marksE l = (0, 0)) := Lib.hid (marksE_end h6' HI.out)
        go_wp2
        go_ret2
        exact ⟨by rw [HE.out]; rfl, hBB⟩

set_option maxHeartbeats 400000 in
theorem listErr_any (l : List Mk) (A : Option Addr) (c B : Nat) (w : World) (hl : MkOk l A B w) (hcap : l.length ≤ c) (hB : B ≤ w.heap.size) :
    Calls Tryz.prog 42 #[.slice A l.length c] w fun e w' => e = .returned (.int .i64 (marksE l).2) ∧ Below w.heap.size w w' := by
  go_enter Tryz.func42, Tryz.ntmps42
  go_wp2_with fail
  refine (checkMarks_any l A c B _ hl hcap hB).mono ?_
  rintro e w1 ⟨rfl, hB1⟩
  go_wp2
  go_ret
  exact ⟨rfl, hB1⟩
end Go.Proofs.YtjimdnmdnjhnjaaGreatDoor

namespace Go.Proofs.YtjimdnmdnjhnjaaGreatDoor
open Go.RowKit

/-- A rule. -/
structure Ru where
  along : Int
  down : Int
  num : Int
  den : Int
abbrev ruC (r : Ru) : Array Value := #[.int .i64 r.along, .int .i64 r.down, .int .i64 r.num, .int .i64 r.den]
/-- The error of a rule. -/
def ruleE (r : Ru) : Int := if !(wi r.along 0 100000) || !(wi r.down 0 100000) then 2 else if !(lowB r.num r.den) then 3 else if decide (r.num < 0) || decide (100 < r.den) || decide (4 * r.den < r.num) then 2 else 0

set_option maxHeartbeats 1000000 in
theorem checkRule_any (r : Ru) (hn : W64 r.num) (hd : W64 r.den) (w : World) : Calls Tryz.prog 43 #[.agg (ruC r)] w fun e w' => e = .returned (.int .i64 (ruleE r)) ∧ Below w.heap.size w w' := by
  have HC : Hid ((wi r.along 0 100000 = false ∧ ruleE r = 2) ∨ (wi r.along 0 100000 = true ∧ wi r.down 0 100000 = false ∧ ruleE r = 2) ∨ (wi r.along 0 100000 = true ∧ wi r.down 0 100000 = true ∧ lowB r.num r.den = false ∧ ruleE r = 3) ∨
      (wi r.along 0 100000 = true ∧ wi r.down 0 100000 = true ∧ lowB r.num r.den = true ∧ ruleE r = if r.num < 0 ∨ 100 < r.den ∨ 4 * r.den < r.num then 2 else 0)) := Lib.hid (by
    unfold ruleE
    cases wi r.along 0 100000 <;> cases wi r.down 0 100000 <;> cases lowB r.num r.den <;> simp [or_assoc])
  have HL : Hid (lowB r.num r.den = true → 0 < r.den) := Lib.hid (fun h => by unfold lowB at h; simp at h; exact h.1)
  go_enter Tryz.func43, Tryz.ntmps43
  have b1 := Blk.new w 55 (ruC r)
  have hBB : Below w.heap.size w (w.alloc (.cells (ruC r) 55)) := (by repeat (first | (with_reducible exact Below.refl _ _) | (with_reducible assumption) | ((with_reducible refine Below.setCell ?_ ?_ _); rotate_left; · (first | exact Nat.le_refl _ | (simp; done) | (simp; omega) | omega)) | ((with_reducible refine Below.alloc ?_ ?_ _); rotate_left; · (first | exact Nat.le_refl _ | (simp; done) | (simp; omega) | omega)) | (with_reducible apply Below.drew) | (with_reducible apply below_drewN') | (refine Below.trans ?_ (Below.mono (by assumption) (by first | exact Nat.le_refl _ | (simp; done) | (simp; omega) | omega))) | exact Below.refl _ _ | assumption))
  obtain ⟨c0, c1, c2, c3, f0⟩ := blk4 b1
  rcases HC.out with ⟨q1, q⟩ | ⟨q1, q2, q⟩ | ⟨q1, q2, q3, q⟩ | ⟨q1, q2, q3, q⟩
  · have Q := Lib.hid q; clear q HC
    go_wp2_with (go_at_call 38; refine (within_any _ _ _ _).mono ?_; rintro e w1 ⟨rfl, rfl⟩)
    go_ret
    exact ⟨by rw [Q.out]; rfl, hBB⟩
  · have Q := Lib.hid q; clear q HC
    go_wp2_with (go_at_call 38; refine (within_any _ _ _ _).mono ?_; rintro e w1 ⟨rfl, rfl⟩)
    go_ret
    exact ⟨by rw [Q.out]; rfl, hBB⟩
  · have Q := Lib.hid q; clear q HC
    go_wp2_with (go_at_call 38; refine (within_any _ _ _ _).mono ?_; rintro e w1 ⟨rfl, rfl⟩)
    refine (isLowest_any _ _ hn hd _).mono ?_
    rw [q3]
    rintro e w1 ⟨rfl, hB1⟩
    replace hBB := hBB.trans (hB1.mono (by simp))
    go_wp2
    go_ret
    exact ⟨by rw [Q.out]; rfl, hBB⟩
  · have Q := Lib.hid q
    have hp := HL.out q3
    clear q HC
    go_wp2_with (go_at_call 38; refine (within_any _ _ _ _).mono ?_; rintro e w1 ⟨rfl, rfl⟩)
    refine (isLowest_any _ _ hn hd _).mono ?_
    rw [q3]
    rintro e w1 ⟨rfl, hB1⟩
    replace b1 := b1.gr hB1
    replace hBB := hBB.trans (hB1.mono (by simp))
    obtain ⟨c0, c1, c2, c3, f0⟩ := blk4 b1
    have h4 : Hid (¬ 100 < r.den → 4 * r.den ≤ 400) := Lib.hid (fun h => by omega)
    by_cases g0 : r.num < 0
    · go_wp2
      go_ret
      exact ⟨by rw [Q.out, if_pos (.inl g0)]; rfl, hBB⟩
    · by_cases g1 : 100 < r.den
      · go_wp2
        go_ret
        exact ⟨by rw [Q.out, if_pos (.inr (.inl g1))]; rfl, hBB⟩
      · by_cases g2 : 4 * r.den < r.num
        · go_wp2
          go_ret
          exact ⟨by rw [Q.out, if_pos (.inr (.inr g2))]; rfl, hBB⟩
        · go_wp2
          go_ret
          exact ⟨by rw [Q.out, if_neg (by omega)]; rfl, hBB⟩

/-- How far two ranges lie apart. -/
def gapV (a0 a1 b0 b1 : Int) : Int := max 0 (max (b0 - a1) (a0 - b1))
set_option maxHeartbeats 1000000 in
theorem gap_any (a0 a1 b0 b1 : Int) (ha : -1000000000 ≤ a0 ∧ a0 ≤ 1000000000) (ha' : -1000000000 ≤ a1 ∧ a1 ≤ 1000000000) (hb : -1000000000 ≤ b0 ∧ b0 ≤ 1000000000) (hb' : -1000000000 ≤ b1 ∧ b1 ≤ 1000000000) (w : World) :
    Calls Tryz.prog 77 #[.agg (rgC a0 a1), .agg (rgC b0 b1)] w fun e w' => e = .returned (.int .i64 (gapV a0 a1 b0 b1)) ∧ Below w.heap.size w w' := by
  unfold rgC
  go_enter Tryz.func77, Tryz.ntmps77
  go_wp2
  all_goals
    go_ret
    exact ⟨by (show Ending.returned (Value.int .i64 _) = _); congr 2; unfold gapV; omega, (by repeat (first | (with_reducible exact Below.refl _ _) | (with_reducible assumption) | ((with_reducible refine Below.setCell ?_ ?_ _); rotate_left; · (first | exact Nat.le_refl _ | (simp; done) | (simp; omega) | omega)) | ((with_reducible refine Below.alloc ?_ ?_ _); rotate_left; · (first | exact Nat.le_refl _ | (simp; done) | (simp; omega) | omega)) | (with_reducible apply Below.drew) | (with_reducible apply below_drewN') | (refine Below.trans ?_ (Below.mono (by assumption) (by first | exact Nat.le_refl _ | (simp; done) | (simp; omega) | omega))) | exact Below.refl _ _ | assumption))⟩

set_option maxHeartbeats 1000000 in
theorem over_any (a0 a1 b0 b1 : Int) (w : World) :
    Calls Tryz.prog 78 #[.agg (rgC a0 a1), .agg (rgC b0 b1)] w fun e w' => e = .returned (.agg (rgC (min a0 b0) (max a1 b1))) ∧ Below w.heap.size w w' := by
  unfold rgC
  go_enter Tryz.func78, Tryz.ntmps78
  go_wp2
  all_goals first
    | (rw [show min a0 b0 = a0 by omega, show max a1 b1 = a1 by omega]; have bn := Blk.new ((w.alloc (.cells #[.int .i64 a0, .int .i64 a1] 23)).alloc (.cells #[.int .i64 b0, .int .i64 b1] 23)) 23 #[.int .i64 a0, .int .i64 a1]; simp only [World.size_alloc] at bn; obtain ⟨u0, u1, _⟩ := blk2c bn; exact bodyPost_ret (v := .agg #[.int .i64 a0, .int .i64 a1]) (by simp [results, Tryz.results78, go_sem, u0, u1]) rfl ⟨rfl, (by repeat (first | (with_reducible exact Below.refl _ _) | (with_reducible assumption) | ((with_reducible refine Below.setCell ?_ ?_ _); rotate_left; · (first | exact Nat.le_refl _ | (simp; done) | (simp; omega) | omega)) | ((with_reducible refine Below.alloc ?_ ?_ _); rotate_left; · (first | exact Nat.le_refl _ | (simp; done) | (simp; omega) | omega)) | (with_reducible apply Below.drew) | (with_reducible apply below_drewN') | (refine Below.trans ?_ (Below.mono (by assumption) (by first | exact Nat.le_refl _ | (simp; done) | (simp; omega) | omega))) | exact Below.refl _ _ | assumption))⟩)
    | (rw [show min a0 b0 = a0 by omega, show max a1 b1 = b1 by omega]; have bn := Blk.new ((w.alloc (.cells #[.int .i64 a0, .int .i64 a1] 23)).alloc (.cells #[.int .i64 b0, .int .i64 b1] 23)) 23 #[.int .i64 a0, .int .i64 b1]; simp only [World.size_alloc] at bn; obtain ⟨u0, u1, _⟩ := blk2c bn; exact bodyPost_ret (v := .agg #[.int .i64 a0, .int .i64 b1]) (by simp [results, Tryz.results78, go_sem, u0, u1]) rfl ⟨rfl, (by repeat (first | (with_reducible exact Below.refl _ _) | (with_reducible assumption) | ((with_reducible refine Below.setCell ?_ ?_ _); rotate_left; · (first | exact Nat.le_refl _ | (simp; done) | (simp; omega) | omega)) | ((with_reducible refine Below.alloc ?_ ?_ _); rotate_left; · (first | exact Nat.le_refl _ | (simp; done) | (simp; omega) | omega)) | (with_reducible apply Below.drew) | (with_reducible apply below_drewN') | (refine Below.trans ?_ (Below.mono (by assumption) (by first | exact Nat.le_refl _ | (simp; done) | (simp; omega) | omega))) | exact Below.refl _ _ | assumption))⟩)
    | (rw [show min a0 b0 = b0 by omega, show max a1 b1 = a1 by omega]; have bn := Blk.new ((w.alloc (.cells #[.int .i64 a0, .int .i64 a1] 23)).alloc (.cells #[.int .i64 b0, .int .i64 b1] 23)) 23 #[.int .i64 b0, .int .i64 a1]; simp only [World.size_alloc] at bn; obtain ⟨u0, u1, _⟩ := blk2c bn; exact bodyPost_ret (v := .agg #[.int .i64 b0, .int .i64 a1]) (by simp [results, Tryz.results78, go_sem, u0, u1]) rfl ⟨rfl, (by repeat (first | (with_reducible exact Below.refl _ _) | (with_reducible assumption) | ((with_reducible refine Below.setCell ?_ ?_ _); rotate_left; · (first | exact Nat.le_refl _ | (simp; done) | (simp; omega) | omega)) | ((with_reducible refine Below.alloc ?_ ?_ _); rotate_left; · (first | exact Nat.le_refl _ | (simp; done) | (simp; omega) | omega)) | (with_reducible apply Below.drew) | (with_reducible apply below_drewN') | (refine Below.trans ?_ (Below.mono (by assumption) (by first | exact Nat.le_refl _ | (simp; done) | (simp; omega) | omega))) | exact Below.refl _ _ | assumption))⟩)
    | (rw [show min a0 b0 = b0 by omega, show max a1 b1 = b1 by omega]; have bn := Blk.new ((w.alloc (.cells #[.int .i64 a0, .int .i64 a1] 23)).alloc (.cells #[.int .i64 b0, .int .i64 b1] 23)) 23 #[.int .i64 b0, .int .i64 b1]; simp only [World.size_alloc] at bn; obtain ⟨u0, u1, _⟩ := blk2c bn; exact bodyPost_ret (v := .agg #[.int .i64 b0, .int .i64 b1]) (by simp [results, Tryz.results78, go_sem, u0, u1]) rfl ⟨rfl, (by repeat (first | (with_reducible exact Below.refl _ _) | (with_reducible assumption) | ((with_reducible refine Below.setCell ?_ ?_ _); rotate_left; · (first | exact Nat.le_refl _ | (simp; done) | (simp; omega) | omega)) | ((with_reducible refine Below.alloc ?_ ?_ _); rotate_left; · (first | exact Nat.le_refl _ | (simp; done) | (simp; omega) | omega)) | (with_reducible apply Below.drew) | (with_reducible apply below_drewN') | (refine Below.trans ?_ (Below.mono (by assumption) (by first | exact Nat.le_refl _ | (simp; done) | (simp; omega) | omega))) | exact Below.refl _ _ | assumption))⟩)
end Go.Proofs.YtjimdnmdnjhnjaaGreatDoor
