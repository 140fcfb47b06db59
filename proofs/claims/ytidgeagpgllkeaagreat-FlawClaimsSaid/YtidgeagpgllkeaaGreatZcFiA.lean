/- Contracts: grids; the order of cells; the error of the cells of an area. -/
import Derived.Test.YtidgeagpgllkeaaGreatZcFeB
import Derived.Test.YtidgeagpgllkeaaGreatZcFfE
namespace Go.Proofs.YtidgeagpgllkeaaGreat
open Go.RowKit

/-- A cell stands ahead of another one. -/
def befB (p q : Int × Int) : Bool := decide (p.1 < q.1) || (decide (p.1 = q.1) && decide (p.2 < q.2))
end Go.Proofs.YtidgeagpgllkeaaGreat
