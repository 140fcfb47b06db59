/- The library's sort, over parts of a face. -/
import Derived.Sort.OwnSorted
import Derived.Sort.Grow
import Derived.Ground.SlsfProg
import Derived.Test.YtfgeipapmdhneaaDoorProg
import Derived.Test.YtfgeipapmdhneaaDoorZsCvM
namespace Go.Proofs.YtfgeipapmdhneaaDoor
open Go.RowKit Go.Sort Go.Shelf

/-- A part with ends that are points. -/
abbrev GP := { p : PV // p.ok ∧ 0 < p.b ∧ 0 < p.d }
instance : Inhabited GP := ⟨⟨⟨0, 1, 1, 1, false, false⟩, ⟨by simp [NN], by simp [NN], by simp [NN], by simp [NN]⟩, by simp, by simp⟩⟩

end Go.Proofs.YtfgeipapmdhneaaDoor
