/- Contracts: the numbers of all set-ups; what set-ups meet of a face. -/
import Derived.Deep.Onto
import Derived.Test.YtfgeipapmdhneaaDoorZsCvK
namespace Go.Proofs.YtfgeipapmdhneaaDoor
open Go.RowKit

theorem infoInt : (Tryd.prog.info? 3).map (fun i => (i.zero, i.size, i.bytes)) = some (some (.int .i64 0), 1, 8) := by kernel_rfl

def intsC (l : List Int) : List Value := l.map (Value.int .i64)

theorem own_ne {w : World} {base e size n g : Nat} {v : Value} {xs : List Value} (h : w.ownsRow base e size v n xs) (hg : g < base ∨ w.heap.size ≤ g) : some g ≠ v.ownBlock := by
  rcases h.2 with ⟨rfl, _⟩ | ⟨g', cap, cur, rfl, hb, hh, _⟩
  · simp [Value.ownBlock]
  · intro e
    have : g = g' := by simpa [Value.ownBlock] using e
    subst this
    have : g < w.heap.size := (Array.getElem?_eq_some_iff.1 hh).1
    omega

theorem own_below {w w' : World} {base e size n : Nat} {v : Value} {xs : List Value} (h : w.ownsRow base e size v n xs) (hb : Below w.heap.size w w') : w'.ownsRow base e size v n xs :=
  h.kept (only_of_below hb none) (by cases hv : v.ownBlock <;> simp)
theorem below_own {a b d : World} {base e size n : Nat} {v : Value} {xs : List Value} (h : Below a.heap.size a b) (hb : a.heap.size ≤ base) (hown : b.ownsRow base e size v n xs) (k : b.grownBy d v.ownBlock) : Below a.heap.size a d :=
  h.grown k (Below.size h) (fun g e => by
    rcases hown.2 with ⟨rfl, _⟩ | ⟨g', cap, cur, rfl, hb', _⟩
    · cases e
    · simp [Value.ownBlock] at e; omega)

end Go.Proofs.YtfgeipapmdhneaaDoor
