/- Equality of marks; copies of marks opened. Contracts: grids; the order of cells; the error of the cells of an area. Contract: the error of the cells of an area. -/
import Derived.Test.YtidgeagpgllkeaaGreatZdFcP
import Derived.Test.YtidgeagpgllkeaaGreatZdFeB
namespace Go.Proofs.YtidgeagpgllkeaaGreat
open Go.RowKit

theorem copied {w : World} {base : Nat} {v : Value} {l : List Mk} (h : w.ownsRow base 79 6 v l.length (mksC l)) (hl : l.length ≤ 1000000000) (hs : ∀ m ∈ l, m.nm.size ≤ 1000000000000) :
    ∃ A c, v = .slice A l.length c ∧ MkOk l A w.heap.size w ∧ l.length ≤ c := by
  rcases h.2 with ⟨rfl, h0⟩ | ⟨g, cap, cur, rfl, hb, hh, hnc, hcm, hsz, htk⟩
  · have hl0 : l = [] := by
      have := h.1
      rw [h0] at this
      exact List.eq_nil_of_length_eq_zero (by simp at this; omega)
    subst hl0
    exact ⟨none, 0, rfl, ⟨by simp, Row.nil_, by simp⟩, Nat.le_refl _⟩
  · refine ⟨_, cap, rfl, ⟨hl, ⟨mksC_length l, fun hn => ⟨g, 0, rfl, ?_, fun j u hj => ?_⟩⟩, hs⟩, hnc⟩
    · exact (Array.getElem?_eq_some_iff.1 hh).1
    · have := h.cells (g := g) rfl j u hj
      rwa [Addr.add_lit] at this
end Go.Proofs.YtidgeagpgllkeaaGreat

namespace Go.Proofs.YtidgeagpgllkeaaGreat
open Go.RowKit

/-- A cell stands ahead of another one. -/
def befB (p q : Int × Int) : Bool := decide (p.1 < q.1) || (decide (p.1 = q.1) && decide (p.2 < q.2))
end Go.Proofs.YtidgeagpgllkeaaGreat

namespace Go.Proofs.YtidgeagpgllkeaaGreat
open Go.RowKit

theorem cellsC_get : ∀ (l : List (Int × Int)) (k : Nat) (p : Int × Int), l[k]? = some p → (cellsC l)[k * 2]? = some (.int .i64 p.1) ∧ (cellsC l)[k * 2 + 1]? = some (.int .i64 p.2)
  | [], k, p, h => by simp at h
  | q :: l, 0, p, h => by obtain rfl : q = p := by simpa using h
                          exact ⟨rfl, rfl⟩
  | q :: l, k + 1, p, h => by
    have ih := cellsC_get l k p (by simpa using h)
    have e : cellsC (q :: l) = encC q ++ cellsC l := by simp [cellsC]
    rw [e, List.getElem?_append_right (by rw [encC_len]; omega), List.getElem?_append_right (by rw [encC_len]; omega), encC_len, show (k + 1) * 2 - 2 = k * 2 by omega, show (k + 1) * 2 + 1 - 2 = k * 2 + 1 by omega]
    exact ih
theorem cellPair {w : World} {B : Nat} {A : Option Addr} {l : List (Int × Int)} (h : Row w B 2 A l.length (cellsC l)) {k : Nat} (hk : k < l.length) :
    ∃ g o, A = some ⟨g, o, none⟩ ∧ g < B ∧ w.cell? ⟨g, o + k * 2, none⟩ = some (.int .i64 l[k].1) ∧ w.cell? ⟨g, o + k * 2 + 1, none⟩ = some (.int .i64 l[k].2) := by
  obtain ⟨g, o, hA, hb, hc⟩ := h.2 (by omega)
  obtain ⟨c0, c1⟩ := cellsC_get l k l[k] (List.getElem?_eq_getElem hk)
  exact ⟨g, o, hA, hb, hc _ _ c0, hc _ _ c1⟩

end Go.Proofs.YtidgeagpgllkeaaGreat
