/- A region of a function, by its number (as RgW's end). -/
import Derived.Test.YtfgeipapmdhneaaDoorProg
namespace Go.Proofs.YtfgeipapmdhneaaDoor

/-- The region of a number. -/
def findR (n : Nat) : Code → Option Code
  | .region i ops d => if i = n then some (.region i ops d) else none
  | .seq a b => (findR n a).orElse fun _ => findR n b
  | .cond _ a b => (findR n a).orElse fun _ => findR n b
  | .block _ b => findR n b
  | .loop b => findR n b
  | .scope b => findR n b
  | .rangeFunc _ _ a b => (findR n a).orElse fun _ => findR n b
  | _ => none
def regOf (f : Func) (n : Nat) : Code := (f.body.bind (findR n)).getD .skip
/-- The body of a loop by its place in the text. -/
def loopsC : Code → List Code
  | .seq a b => loopsC a ++ loopsC b
  | .cond _ a b => loopsC a ++ loopsC b
  | .block _ b => loopsC b
  | .loop b => b :: loopsC b
  | .scope b => loopsC b
  | _ => []
def bodyOf (f : Func) (k : Nat) : Code := ((f.body.map loopsC).getD [])[k]?.getD .skip
end Go.Proofs.YtfgeipapmdhneaaDoor
