/- Contracts of the package flaw: the first group that interacts with a mark's. -/
import Derived.Test.YtidgeagpgllkeaaGreatFcE
namespace Go.Proofs.YtidgeagpgllkeaaGreat
open Go.RowKit

/-- A group: where its numbers lie, they themselves, its hull. -/
structure Gp where
  v : Value
  ns : List Int
  m : Mk
abbrev gpL (g : Gp) : List Value := [g.v, .string g.m.nm, .int .i64 g.m.al, .int .i64 g.m.ah, .int .i64 g.m.dl, .int .i64 g.m.dh, .int .i64 g.m.lv]
def gpsC (l : List Gp) : List Value := l.flatMap gpL
theorem gpsC_length (l : List Gp) : (gpsC l).length = l.length * 7 := by
  induction l with
  | nil => rfl
  | cons p l ih => simp only [gpsC, List.flatMap_cons, List.length_append] at ih ⊢; rw [ih]; simp; omega
theorem gpsC_append (a b : List Gp) : gpsC (a ++ b) = gpsC a ++ gpsC b := by simp [gpsC]
theorem gpsC_get : ∀ (l : List Gp) (k : Nat) (g : Gp), l[k]? = some g → ∀ j, j < 7 → (gpsC l)[k * 7 + j]? = (gpL g)[j]?
  | [], k, p, h, _, _ => by simp at h
  | q :: l, 0, p, h, j, hj => by
    obtain rfl : q = p := by simpa using h
    simp only [gpsC, List.flatMap_cons]
    rw [List.getElem?_append_left (by simp; omega)]; simp
  | q :: l, k + 1, p, h, j, hj => by
    rw [← gpsC_get l k p (by simpa using h) j hj]
    simp only [gpsC, List.flatMap_cons]
    rw [List.getElem?_append_right (by simp; omega)]
    congr 1
    simp; omega
theorem gpCells {w : World} {B : Nat} {A : Option Addr} {l : List Gp} (h : Row w B 7 A l.length (gpsC l)) {k : Nat} (hk : k < l.length) :
    ∃ g o, A = some ⟨g, o, none⟩ ∧ g < B ∧ w.cell? ⟨g, o + k * 7, none⟩ = some l[k].v ∧ w.cell? ⟨g, o + k * 7 + 1, none⟩ = some (.string l[k].m.nm) ∧ w.cell? ⟨g, o + k * 7 + 2, none⟩ = some (.int .i64 l[k].m.al) ∧ w.cell? ⟨g, o + k * 7 + 3, none⟩ = some (.int .i64 l[k].m.ah) ∧
      w.cell? ⟨g, o + k * 7 + 4, none⟩ = some (.int .i64 l[k].m.dl) ∧ w.cell? ⟨g, o + k * 7 + 5, none⟩ = some (.int .i64 l[k].m.dh) ∧ w.cell? ⟨g, o + k * 7 + 6, none⟩ = some (.int .i64 l[k].m.lv) := by
  obtain ⟨g, o, hA, hb, hc⟩ := h.2 (by omega)
  have hg := gpsC_get l k l[k] (List.getElem?_eq_getElem hk)
  exact ⟨g, o, hA, hb, hc _ _ (hg 0 (by omega)), hc _ _ (hg 1 (by omega)), hc _ _ (hg 2 (by omega)), hc _ _ (hg 3 (by omega)), hc _ _ (hg 4 (by omega)), hc _ _ (hg 5 (by omega)), hc _ _ (hg 6 (by omega))⟩
theorem blk7 {w : World} {g t : Nat} {v0 v1 v2 v3 v4 v5 v6 : Value} (h : Blk w g t #[v0, v1, v2, v3, v4, v5, v6]) :
    w.cell? ⟨g, 0, none⟩ = some v0 ∧ w.cell? ⟨g, 1, none⟩ = some v1 ∧ w.cell? ⟨g, 2, none⟩ = some v2 ∧ w.cell? ⟨g, 3, none⟩ = some v3 ∧ w.cell? ⟨g, 4, none⟩ = some v4 ∧ w.cell? ⟨g, 5, none⟩ = some v5 ∧ w.cell? ⟨g, 6, none⟩ = some v6 ∧ ∀ i, w.frozen? ⟨g, i, none⟩ = false :=
  ⟨h.cell 0, h.cell 1, h.cell 2, h.cell 3, h.cell 4, h.cell 5, h.cell 6, h.frozen⟩

abbrev gpA (v : Value) (m : Mk) : Array Value := #[v, .string m.nm, .int .i64 m.al, .int .i64 m.ah, .int .i64 m.dl, .int .i64 m.dh, .int .i64 m.lv]
/-- The two boxes of the closure: the mark's own group, the rule. -/
structure GpB (b10 b3 : Nat) (vo : Value) (own : Mk) (r : Ru) (W : World) : Prop where
  own : Blk W b10 164 (gpA vo own)
  rule : Blk W b3 62 (ruC r)
theorem GpB.gr {b10 b3 : Nat} {vo : Value} {own : Mk} {r : Ru} {W W' : World} (h : GpB b10 b3 vo own r W) (hg : Gr W W') : GpB b10 b3 vo own r W' := ⟨h.own.gr hg, h.rule.gr hg⟩

set_option maxRecDepth 100000 in
set_option maxHeartbeats 1000000 in
theorem meets_any (v vo : Value) (m own : Mk) (r : Ru) (b10 b3 : Nat) (hm : MkS m) (ho : MkS own) (hr : RuS r) (w : World) (hb : GpB b10 b3 vo own r w) :
    Calls Tryz.prog 101 #[.agg (gpA v m), .pointer (some ⟨b10, 0, none⟩), .pointer (some ⟨b3, 0, none⟩)] w fun e w' => e = .returned (.bool (interactV m own r)) ∧ Below w.heap.size w w' := by
  have d0 := Blk.new w 164 (gpA v m)
  have d1 := hb.own.alloc (.cells (gpA v m) 164)
  have d2 := hb.rule.alloc (.cells (gpA v m) 164)
  have hBB : Below w.heap.size w (w.alloc (.cells (gpA v m) 164)) := (by repeat (first | (with_reducible exact Below.refl _ _) | (with_reducible assumption) | ((with_reducible refine Below.setCell ?_ ?_ _); rotate_left; · (first | exact Nat.le_refl _ | (simp; done) | (simp; omega) | omega)) | ((with_reducible refine Below.alloc ?_ ?_ _); rotate_left; · (first | exact Nat.le_refl _ | (simp; done) | (simp; omega) | omega)) | (with_reducible apply Below.drew) | (with_reducible apply below_drewN') | (refine Below.trans ?_ (Below.mono (by assumption) (by first | exact Nat.le_refl _ | (simp; done) | (simp; omega) | omega))) | exact Below.refl _ _ | assumption))
  have l1 := hb.own.lt; have l2 := hb.rule.lt
  go_enter Tryz.func101, Tryz.ntmps101
  obtain ⟨a0, a1, a2, a3, a4, a5, a6, _⟩ := blk7 hb.own
  obtain ⟨c0, c1, c2, c3, _⟩ := blk4 hb.rule
  go_wp2_with fail
  refine (interact_any m own r hm ho hr _).mono ?_
  rintro e w1 ⟨rfl, hB1⟩
  replace hBB := hBB.trans (hB1.mono (by simp))
  go_wp2
  go_ret
  exact ⟨rfl, hBB⟩

set_option maxHeartbeats 1000000 in
theorem indexGp_any (l : List Gp) (A : Option Addr) (c : Nat) (vo : Value) (own : Mk) (r : Ru) (b10 b3 B : Nat) (w : World) (hn : l.length ≤ 1000000) (hR : Row w B 7 A l.length (gpsC l)) (hB : B ≤ w.heap.size) (hm : Hid (∀ g ∈ l, MkS g.m)) (ho : MkS own) (hr : RuS r) (hb : GpB b10 b3 vo own r w) :
    Calls Tryz.prog 100 #[.slice A l.length c, .func (.func 101) #[] #[.pointer (some ⟨b10, 0, none⟩), .pointer (some ⟨b3, 0, none⟩)]] w fun e w' => ∃ i : Int, e = .returned (.int .i64 i) ∧
      Hid ((i = -1 ∧ l.any (fun g => interactV g.m own r) = false) ∨ ∃ k, ∃ h : k < l.length, i = (k : Int) ∧ interactV l[k].m own r = true ∧ (l.take k).any (fun g => interactV g.m own r) = false) ∧ Below w.heap.size w w' := by
  have HO := Lib.hid ho; have HR := Lib.hid hr
  clear ho hr
  go_enter Tryz.func100, Tryz.ntmps100
  go_wp2
  go_loopw [8] (fun i wr => ∃ k : Nat, k ≤ l.length ∧ i = .int .i64 k ∧ Hid ((l.take k).any (fun g => interactV g.m own r) = false) ∧ Below w.heap.size w wr) (fun i _ => l.length - (intOf i).toNat)
  case atStart => exact ⟨0, Nat.zero_le _, rfl, rfl, Below.refl _ _⟩
  case round =>
    obtain ⟨k, hk, rfl, HI, hB'⟩ := hrel
    by_cases hlt : k < l.length
    · obtain ⟨g, o, hA, hg, c0, c1, c2, c3, c4, c5, c6⟩ := gpCells (hR.below hB' hB) hlt
      subst hA
      have hbk := Lib.hid (GpB.gr hb hB')
      have hMS := Lib.hid (hm.out l[k] (List.getElem_mem hlt))
      cases hs : interactV l[k].m own r
      · have HS := Lib.hid hs; clear hs
        have HX : Hid ((l.take (k + 1)).any (fun g => interactV g.m own r) = false) := Lib.hid (by rw [any_take_snoc _ _ hlt, HI.out, HS.out]; rfl)
        go_wp2_with fail
        refine (meets_any _ vo l[k].m own r b10 b3 hMS.out HO.out HR.out _ hbk.out).mono ?_
        rw [HS.out]
        rintro e w1 ⟨rfl, hB1⟩; obtain ⟨hc1, hf1⟩ := bcell hB1; have hz1 := hB1.size; (try simp at hz1)
        go_wp2
        refine ⟨⟨k + 1, by omega, by go_num, HX, Below.trans hB' (hB1.mono (Below.size hB'))⟩, by simp [intOf]; omega⟩
      · have HS := Lib.hid hs; clear hs
        go_wp2_with fail
        refine (meets_any _ vo l[k].m own r b10 b3 hMS.out HO.out HR.out _ hbk.out).mono ?_
        rw [HS.out]
        rintro e w1 ⟨rfl, hB1⟩; obtain ⟨hc1, hf1⟩ := bcell hB1; have hz1 := hB1.size; (try simp at hz1)
        go_wp2
        go_ret
        exact ⟨_, rfl, Lib.hid (.inr ⟨k, hlt, rfl, HS.out, HI.out⟩), Below.trans hB' (hB1.mono (Below.size hB'))⟩
    · obtain rfl : k = l.length := by omega
      go_wp2
      go_ret
      exact ⟨_, rfl, Lib.hid (.inl ⟨rfl, by have := HI.out; rwa [List.take_length] at this⟩), hB'⟩
end Go.Proofs.YtidgeagpgllkeaaGreat
