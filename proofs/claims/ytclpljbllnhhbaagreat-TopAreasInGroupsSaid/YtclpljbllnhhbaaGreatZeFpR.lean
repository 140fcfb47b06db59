/- Regions of the law FlawClaims: the lists are copied and checked. -/
import Derived.Laws.AppendOwnNone
import Derived.RangeFuncBox
import Derived.RangeFuncLeaves
import Derived.RangeFuncNested
import Derived.Shelf.Abstract
import Derived.WalkKit
import Derived.OwnWalkIn
import Derived.TacticsInMore
import Derived.LoopNIn
import Derived.LoopIn
import Derived.OrdersIn
import Derived.TacticsIn
import Derived.Shelf.Bits.Mul64
import Derived.Shelf.Spec.SlicesInsert
import Derived.Deep.DeepCutAuto
import Derived.Test.YtclpljbllnhhbaaGreatZeRgW
import Derived.Test.YtclpljbllnhhbaaGreatZeFkB
import Derived.Test.YtclpljbllnhhbaaGreatZeFeF
import Derived.Test.YtclpljbllnhhbaaGreatZeFkA
import Derived.Test.YtclpljbllnhhbaaGreatZeFcP
import Derived.Test.YtclpljbllnhhbaaGreatZeFiB
import Derived.Test.YtclpljbllnhhbaaGreatZeFcG
import Derived.Test.YtclpljbllnhhbaaGreatZeFeA
import Derived.Test.YtclpljbllnhhbaaGreatZeFcD
import Derived.Test.YtclpljbllnhhbaaGreatZeFgD
import Derived.Test.YtclpljbllnhhbaaGreatZeFjD
import Derived.Test.YtclpljbllnhhbaaGreatZeFjG
import Derived.Test.YtclpljbllnhhbaaGreatZeFeB
import Derived.Test.YtclpljbllnhhbaaGreatZeFaX
import Derived.Test.YtclpljbllnhhbaaGreatZeFfE
namespace Go.Proofs.YtclpljbllnhhbaaGreat
open Go.RowKit

theorem MkOk.gr {l : List Mk} {A : Option Addr} {w w' : World} (h : MkOk l A w.heap.size w) (g : Gr w w') : MkOk l A w'.heap.size w' := ⟨h.len, (h.row.below g (Nat.le_refl _)).more (Below.size g), h.size⟩
theorem Row.gr {A : Option Addr} {size n : Nat} {xs : List Value} {w w' : World} (h : Row w w.heap.size size A n xs) (g : Gr w w') : Row w' w'.heap.size size A n xs := (h.below g (Nat.le_refl _)).more (Below.size g)

end Go.Proofs.YtclpljbllnhhbaaGreat
