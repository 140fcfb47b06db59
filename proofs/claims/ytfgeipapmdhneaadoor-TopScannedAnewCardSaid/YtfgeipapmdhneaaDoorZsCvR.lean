/- Contract: the first gap of some parts. -/
import Derived.Test.YtfgeipapmdhneaaDoorZsCvP
import Derived.Test.YtfgeipapmdhneaaDoorZsCvU
namespace Go.Proofs.YtfgeipapmdhneaaDoor
open Go.RowKit Go.Sort Go.Shelf

theorem Row.own {w : World} {base e size n : Nat} {v : Value} {xs : List Value} (h : w.ownsRow base e size v n xs) : ∃ A cap, v = .slice A n cap ∧ Row w w.heap.size size A n xs := by
  obtain ⟨A, cap, rfl, _, hc⟩ := own_shape h
  refine ⟨A, cap, rfl, h.1, fun hn => ?_⟩
  obtain ⟨g, rfl, _, hg, hcs, _⟩ := hc hn
  refine ⟨g, 0, rfl, hg, fun j u hu => ?_⟩
  have hj : j < n * size := by rw [← h.1]; exact (List.getElem?_eq_some_iff.1 hu).1
  rw [Nat.zero_add, hcs j hj, hu]

end Go.Proofs.YtfgeipapmdhneaaDoor
