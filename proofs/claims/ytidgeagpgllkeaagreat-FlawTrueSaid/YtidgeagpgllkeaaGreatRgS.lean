/- A region of a function by its number: lemmas on single regions. -/
import Derived.Test.YtidgeagpgllkeaaGreatRgW
namespace Go.Proofs.YtidgeagpgllkeaaGreat

/-- The region of a number. -/
def findR (n : Nat) : Code → Option Code
  | .region i ops d => if i = n then some (.region i ops d) else none
  | .seq a b => (findR n a).orElse fun _ => findR n b
  | .cond _ a b => (findR n a).orElse fun _ => findR n b
  | .block _ b => findR n b
  | .loop b => findR n b
  | .scope b => findR n b
  | .rangeFunc _ _ a b => (findR n a).orElse fun _ => findR n b
  | _ => none
def regOf (f : Func) (n : Nat) : Code := (f.body.bind (findR n)).getD .skip
end Go.Proofs.YtidgeagpgllkeaaGreat
