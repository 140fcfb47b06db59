/- Contract: FirstGap. -/
import Derived.Test.YtlnkgjkjdllckaaGreatDoorZpCvX
namespace Go.Proofs.YtlnkgjkjdllckaaGreatDoor
open Go.RowKit

def gapR (r : (Int × Int × Int × Int) × Bool) : PR := if r.2 then ⟨r.1.1, r.1.2.1, r.1.2.2.1, r.1.2.2.2, 0⟩ else ⟨0, 0, 0, 0, 12⟩
theorem JoOk.below {j : Jo} {A : Option Addr} {c B : Nat} {w w' : World} (h : JoOk j A c B w) {C : Nat} (hb : Below C w w') (hC : B ≤ C) : JoOk j A c B w' :=
  ⟨h.nm, h.fs, h.len, h.cap, h.row.below hb hC, Nat.le_trans h.base hb.size⟩
theorem SuOk.below {l : List (ByteArray × Su)} {A : Option Addr} {c B : Nat} {w w' : World} (h : SuOk l A c B w) {C : Nat} (hb : Below C w w') (hC : B ≤ C) : SuOk l A c B w' :=
  ⟨h.nm, h.wf, h.len, h.cap, h.row.below hb hC, Nat.le_trans h.base hb.size⟩

end Go.Proofs.YtlnkgjkjdllckaaGreatDoor
