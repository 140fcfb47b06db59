/- Contract: whether two marks interact, with errors. Contract: whether two marks are alike, with errors. Plain law: turned round, two marks interact and are alike just the same. -/
import Derived.Deep.DeepCutAuto
import Derived.Test.YtclpljbllnhhbaaGreatZeFcG
import Derived.Test.YtclpljbllnhhbaaGreatZeFcN
namespace Go.Proofs.YtclpljbllnhhbaaGreat
open Go.RowKit

end Go.Proofs.YtclpljbllnhhbaaGreat

namespace Go.Proofs.YtclpljbllnhhbaaGreat
open Go.RowKit

end Go.Proofs.YtclpljbllnhhbaaGreat

namespace Go.Proofs.YtclpljbllnhhbaaGreat

theorem gapV_comm (a b c d : Int) : gapV a b c d = gapV c d a b := by unfold gapV; omega
theorem nearV_comm (a b c d m n e : Int) : nearV a b c d m n e = nearV c d a b m n e := by
  unfold nearV
  rw [gapV_comm a b c d, show min (b - a) (d - c) = min (d - c) (b - a) by omega]
theorem interactV_comm (a b : Mk) (r : Ru) : interactV a b r = interactV b a r := by
  unfold interactV
  rw [nearV_comm a.al, nearV_comm a.dl]
end Go.Proofs.YtclpljbllnhhbaaGreat
