/- Openers: an area, a grid. -/
import Derived.Test.YtclpljbllnhhbaaGreatZeFgC
import Derived.Test.YtclpljbllnhhbaaGreatZeFdD
import Derived.Test.YtclpljbllnhhbaaGreatZeFcD
import Derived.Test.YtclpljbllnhhbaaGreatZeFiB
namespace Go.Proofs.YtclpljbllnhhbaaGreat
open Go.ChangeShapes Go.WideShapes Go.ChangeAt Go.RowKit

theorem cellsGrid : Tryz.prog.cellsOf 26 = 2 := by kernel_rfl
section
variable {H : Type} {enc : TypeId × Value → H} {w : World} {base b0 : Nat} {spare : Nat → Bool} {held : Bool} {r : Reach} {v : Value} {d : DataW H} {ps : List MemPlace}
set_option maxRecDepth 4000 in
theorem open_grid (hval : Value.okWide Tryz.prog w r b0 26 v) (hd : DataW.Trod enc Tryz.prog w base spare held 26 v d ps) : ∃ a b : Int, v = .agg #[.int .i64 a, .int .i64 b] := by
  have ht := Tryz.underlying26
  obtain ⟨xs, rfl, n, x, h⟩ := open_cells ht hval hd
  obtain ⟨_, _, _, _, hlen, _, _⟩ := DataW.trod_struct ht h
  obtain ⟨n0, h0, _⟩ := field_int ht h 0 _ rfl cells3 (by rw [cellsGrid]; decide) Tryz.underlying3
  obtain ⟨n1, h1, _⟩ := field_int ht h 1 _ rfl cells3 (by rw [cellsGrid]; decide) Tryz.underlying3
  have hl : xs.toList.length = 2 := hlen.trans cellsGrid
  refine ⟨n0, n1, ?_⟩
  rw [arr_eq (xs := xs) (l := [.int .i64 n0, .int .i64 n1]) ?_]
  match hq : xs.toList, hl with
  | [c0, c1], _ =>
    rw [hq] at h0 h1
    simp at h0 h1
    rw [h0, h1]
end
end Go.Proofs.YtclpljbllnhhbaaGreat
