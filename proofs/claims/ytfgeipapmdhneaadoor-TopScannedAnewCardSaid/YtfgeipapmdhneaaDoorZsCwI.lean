/- Contract: the examples of the statements are so. -/
import Derived.Test.YtfgeipapmdhneaaDoorZsCwD
import Derived.Test.YtfgeipapmdhneaaDoorZsCvZb
namespace Go.Proofs.YtfgeipapmdhneaaDoor
open Go.RowKit

theorem JoOk.more {j : Jo} {A : Option Addr} {c B B' : Nat} {w : World} (h : JoOk j A c B w) (hB : B ≤ B') (hw : B' ≤ w.heap.size) : JoOk j A c B' w := ⟨h.nm, h.fs, h.len, h.cap, h.row.more hB, hw⟩

theorem ex_partV : prC (partOfR slantJ 0 dirN dirS) = .tuple #[.agg #[.int .i64 0, .int .i64 1, .int .i64 1, .int .i64 2], .int .i64 0] := by rw [ex_part]; rfl
theorem dirN_size : dirN.size ≤ 1000000000000 := by simp [dirN, ByteArray.size]

end Go.Proofs.YtfgeipapmdhneaaDoor
