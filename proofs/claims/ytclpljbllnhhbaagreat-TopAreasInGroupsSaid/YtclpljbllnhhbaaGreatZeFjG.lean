/- Contracts: equal lists of cells, equal areas; the reference's neighbours. Contract: whether all cells of an area are in another one. -/
import Derived.Test.YtclpljbllnhhbaaGreatZeFjB
import Derived.Test.YtclpljbllnhhbaaGreatZeFiB
import Derived.Test.YtclpljbllnhhbaaGreatZeFgC
import Derived.Test.YtclpljbllnhhbaaGreatZeFcP
import Derived.Test.YtclpljbllnhhbaaGreatZeFjD
namespace Go.Proofs.YtclpljbllnhhbaaGreat
open Go.RowKit

/-- An area, read: its cells' slice. -/
structure ArOk (a : ArA) (B : Nat) (w : World) : Prop where
  len : a.2.length ≤ 9223372036854775807
  row : ∃ A c, a.1 = .slice A a.2.length c ∧ Row w B 2 A a.2.length (cellsC a.2)
theorem ArOk.below {a : ArA} {B C : Nat} {w w' : World} (h : ArOk a B w) (hb : Below C w w') (hC : B ≤ C) : ArOk a B w' :=
  ⟨h.len, by obtain ⟨A, c, e, hr⟩ := h.row; exact ⟨A, c, e, hr.below hb hC⟩⟩

/-- Areas, read. -/
structure ArsOk (g : Int → Int → Int) (As : List ArA) (A : Option Addr) (B : Nat) (w : World) : Prop where
  len : As.length ≤ 9223372036854775807
  row : Row w B 4 A As.length (cellsA g As)
  each : ∀ a ∈ As, ArOk a B w
theorem ArsOk.below {g : Int → Int → Int} {As : List ArA} {A : Option Addr} {B C : Nat} {w w' : World} (h : ArsOk g As A B w) (hb : Below C w w') (hC : B ≤ C) : ArsOk g As A B w' :=
  ⟨h.len, h.row.below hb hC, fun a ha => (h.each a ha).below hb hC⟩
theorem cellsA_get (g : Int → Int → Int) : ∀ (As : List ArA) (k : Nat) (a : ArA), As[k]? = some a →
    (cellsA g As)[k * 4]? = some a.1 ∧ (cellsA g As)[k * 4 + 1]? = some (.int .i64 (peakV g a.2).1) ∧ (cellsA g As)[k * 4 + 2]? = some (.int .i64 (peakV g a.2).2) ∧ (cellsA g As)[k * 4 + 3]? = some (.int .i64 (g (peakV g a.2).1 (peakV g a.2).2))
  | [], k, p, h => by simp at h
  | q :: l, 0, p, h => by obtain rfl : q = p := by simpa using h
                          exact ⟨rfl, rfl, rfl, rfl⟩
  | q :: l, k + 1, p, h => by
    have ih := cellsA_get g l k p (by simpa using h)
    have e : ∀ j, (cellsA g (q :: l))[(k + 1) * 4 + j]? = (cellsA g l)[k * 4 + j]? := fun j => by
      rw [show (k + 1) * 4 + j = (k * 4 + j) + 4 by omega]; rfl
    exact ⟨(e 0).trans ih.1, (e 1).trans ih.2.1, (e 2).trans ih.2.2.1, (e 3).trans ih.2.2.2⟩
theorem ArsOk.cell {g : Int → Int → Int} {As : List ArA} {A : Option Addr} {B : Nat} {w : World} (h : ArsOk g As A B w) {k : Nat} (hk : k < As.length) :
    ∃ b o, A = some ⟨b, o, none⟩ ∧ b < B ∧ w.cell? ⟨b, o + k * 4, none⟩ = some As[k].1 ∧ w.cell? ⟨b, o + k * 4 + 1, none⟩ = some (.int .i64 (peakV g As[k].2).1) ∧ w.cell? ⟨b, o + k * 4 + 2, none⟩ = some (.int .i64 (peakV g As[k].2).2) ∧ w.cell? ⟨b, o + k * 4 + 3, none⟩ = some (.int .i64 (g (peakV g As[k].2).1 (peakV g As[k].2).2)) := by
  obtain ⟨b, o, hA, hb, hc⟩ := h.row.2 (by omega)
  obtain ⟨g0, g1, g2, g3⟩ := cellsA_get g As k As[k] (List.getElem?_eq_getElem hk)
  exact ⟨b, o, hA, hb, hc _ _ g0, hc _ _ g1, hc _ _ g2, hc _ _ g3⟩

end Go.Proofs.YtclpljbllnhhbaaGreat

namespace Go.Proofs.YtclpljbllnhhbaaGreat
open Go.RowKit

theorem known_in {l : List Sc} {r c : Int} (h : 0 ≤ atV l r c) : ∃ s ∈ l, inB s r c = true := by
  refine Classical.byContradiction fun hn => ?_
  have := (atV_le l r c (-1)).2 ⟨Int.le_refl _, fun s hs hi => absurd ⟨s, hs, hi⟩ hn⟩
  omega
def allC (l : List Sc) : List (Int × Int) := l.flatMap fun s => (List.range 24).flatMap fun (r : Nat) => (List.range 24).map fun (c : Nat) => (s.row + (r : Int), s.col + (c : Int))
theorem allC_len (l : List Sc) : (allC l).length = l.length * 576 := by
  induction l with
  | nil => rfl
  | cons s l ih =>
    unfold allC at *
    rw [List.flatMap_cons, List.length_append, ih]
    have : ((List.range 24).flatMap fun (r : Nat) => (List.range 24).map fun (c : Nat) => (s.row + (r : Int), s.col + (c : Int))).length = 576 := by
      rw [List.length_flatMap]
      simp only [List.length_map, List.length_range]
      rfl
    rw [this, List.length_cons]; omega
theorem Pls.short {l : List Sc} {level : Int} {P : List (Int × Int)} (h : Pls (atV l) level P) (hg : ∀ s ∈ l, ScGood s) (hn : l.length ≤ 6) : P.length ≤ 3456 := by
  have := nodup_len P (allC l) h.nodup fun x hx => by
    obtain ⟨s, hs, hi⟩ := known_in ((abv_iff _ _ _ _).1 ((h.mem x).1 hx)).1
    have g1 := (hg s hs).rows
    have g2 := (hg s hs).cols
    simp [inB, wi] at hi
    unfold allC
    refine List.mem_flatMap.2 ⟨s, hs, List.mem_flatMap.2 ⟨(x.1 - s.row).toNat, List.mem_range.2 (by omega), List.mem_map.2 ⟨(x.2 - s.col).toNat, List.mem_range.2 (by omega), ?_⟩⟩⟩
    exact Prod.ext (by dsimp only; omega) (by dsimp only; omega)
  rw [allC_len] at this
  omega
theorem atV_w64 {l : List Sc} (hg : ∀ s ∈ l, ScGood s) : ∀ x y, 0 ≤ atV l x y → W64 x ∧ W64 y := fun x y h => by
  have := atV_known hg h
  unfold W64
  omega
theorem own_ar {W : World} {base : Nat} {a : ArA} (h : W.ownsRow base 39 2 a.1 a.2.length (cellsC a.2)) : ArOk a W.heap.size W := by
  obtain ⟨A, c, e, hR, hc, _⟩ := own_row2 h
  refine ⟨?_, A, c, e, hR⟩
  rcases h.2 with ⟨_, h0⟩ | ⟨_, cap, _, _, _, _, h1, h2, _⟩
  · omega
  · unfold maxLen at h2; omega
theorem core_good {l L : List Sc} (hc : L.map Sc.core = l.map Sc.core) (hg : ∀ s ∈ l, ScGood s) : ∀ s ∈ L, ScGood s := fun s hs => by
  have hm : s.core ∈ l.map Sc.core := by rw [← hc]; exact List.mem_map_of_mem hs
  obtain ⟨t, ht, e⟩ := List.mem_map.1 hm
  obtain ⟨e1, e2, e3, e4, e5⟩ := core_eq e
  have := hg t ht
  exact ⟨by rw [← e1]; exact this.row, by rw [← e2]; exact this.col, by rw [← e3]; exact this.rows, by rw [← e4]; exact this.cols, by rw [← e3, ← e4, ← e5]; exact this.len, by rw [← e5]; exact this.short, by rw [← e5]; exact this.data⟩

end Go.Proofs.YtclpljbllnhhbaaGreat
