/- Equality of marks; copies of marks opened. -/
import Derived.Test.YtidgeagpgllkeaaGreatZcFcP
import Derived.Test.YtidgeagpgllkeaaGreatZcFeB
namespace Go.Proofs.YtidgeagpgllkeaaGreat
open Go.RowKit

theorem copied {w : World} {base : Nat} {v : Value} {l : List Mk} (h : w.ownsRow base 79 6 v l.length (mksC l)) (hl : l.length ≤ 1000000000) (hs : ∀ m ∈ l, m.nm.size ≤ 1000000000000) :
    ∃ A c, v = .slice A l.length c ∧ MkOk l A w.heap.size w ∧ l.length ≤ c := by
  rcases h.2 with ⟨rfl, h0⟩ | ⟨g, cap, cur, rfl, hb, hh, hnc, hcm, hsz, htk⟩
  · have hl0 : l = [] := by
      have := h.1
      rw [h0] at this
      exact List.eq_nil_of_length_eq_zero (by simp at this; omega)
    subst hl0
    exact ⟨none, 0, rfl, ⟨by simp, Row.nil_, by simp⟩, Nat.le_refl _⟩
  · refine ⟨_, cap, rfl, ⟨hl, ⟨mksC_length l, fun hn => ⟨g, 0, rfl, ?_, fun j u hj => ?_⟩⟩, hs⟩, hnc⟩
    · exact (Array.getElem?_eq_some_iff.1 hh).1
    · have := h.cells (g := g) rfl j u hj
      rwa [Addr.add_lit] at this
end Go.Proofs.YtidgeagpgllkeaaGreat
