/- Contract: Bevelled, where the ask is right and the tangent too: the joint, or the error of one that is too wide. -/
import Derived.Test.YtfgeipapmdhneaaDoorZsCvM
import Derived.Test.YtfgeipapmdhneaaDoorZsCvU
namespace Go.Proofs.YtfgeipapmdhneaaDoor
open Go.RowKit

theorem own_set {w : World} {base e size n : Nat} {v : Value} {xs : List Value} (h : w.ownsRow base e size v n xs) {p : Addr} (hp : p.block < base) (u : Value) : (w.setCell p u).ownsRow base e size v n xs :=
  h.kept (only_setCell (World.grownBy.refl w (some p.block)) (.inl rfl) u) (.inr (Ne.symm (own_ne h (.inl hp))))

end Go.Proofs.YtfgeipapmdhneaaDoor
