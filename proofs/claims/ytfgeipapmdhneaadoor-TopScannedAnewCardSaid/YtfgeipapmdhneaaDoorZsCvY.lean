/- Contract: FirstGap. -/
import Derived.Test.YtfgeipapmdhneaaDoorZsCvR
namespace Go.Proofs.YtfgeipapmdhneaaDoor
open Go.RowKit

theorem JoOk.below {j : Jo} {A : Option Addr} {c B : Nat} {w w' : World} (h : JoOk j A c B w) {C : Nat} (hb : Below C w w') (hC : B ≤ C) : JoOk j A c B w' :=
  ⟨h.nm, h.fs, h.len, h.cap, h.row.below hb hC, Nat.le_trans h.base hb.size⟩

end Go.Proofs.YtfgeipapmdhneaaDoor
