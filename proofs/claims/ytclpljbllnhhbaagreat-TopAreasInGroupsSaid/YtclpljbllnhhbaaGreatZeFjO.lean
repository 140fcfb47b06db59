/- Openers: an ask, a list of numbers. -/
import Derived.Test.YtclpljbllnhhbaaGreatZeFgC
import Derived.Test.YtclpljbllnhhbaaGreatZeFdD
namespace Go.Proofs.YtclpljbllnhhbaaGreat
open Go.ChangeShapes Go.WideShapes Go.ChangeAt Go.RowKit

theorem cells4 : Tryz.prog.cellsOf 4 = 1 := by kernel_rfl
theorem cellsAsk : Tryz.prog.cellsOf 24 = 2 := by kernel_rfl
section
variable {H : Type} {enc : TypeId × Value → H} {w : World} {base b0 : Nat} {spare : Nat → Bool} {held : Bool} {r : Reach} {v : Value} {d : DataW H} {ps : List MemPlace}
theorem field_bool {P : Program} {t : TypeId} {fs : Array Field} {fuel : Nat} {cs : List Value} {x : DataW H × List MemPlace} (ht : P.underlying t = some (.struct fs)) (h : DataW.trod enc P w base spare held fuel t cs = some x)
    (i : Nat) (f : Field) (hf : fs[i]? = some f) (hc : P.cellsOf f.type = 1) (hl : f.offset < P.cellsOf t) (he : P.underlying f.type = some .bool) :
    ∃ b, cs[f.offset]? = some (.bool b) := by
  obtain ⟨v, y, n, h1, h2⟩ := field_one ht h i f hf hc hl
  obtain ⟨b, hz, _⟩ := DataW.trod_bool he h2
  obtain rfl : v = .bool b := by simpa using hz
  exact ⟨b, h1⟩
set_option maxRecDepth 4000 in
theorem open_ask (hval : Value.okWide Tryz.prog w r b0 24 v) (hd : DataW.Trod enc Tryz.prog w base spare held 24 v d ps) : ∃ (a : Int) (b : Bool), v = .agg #[.int .i64 a, .bool b] ∧ I64 a := by
  have ht := Tryz.underlying24
  obtain ⟨xs, rfl, n, x, h⟩ := open_cells ht hval hd
  obtain ⟨_, _, _, _, hlen, _, _⟩ := DataW.trod_struct ht h
  obtain ⟨n0, h0, w0⟩ := field_int ht h 0 _ rfl cells3 (by rw [cellsAsk]; decide) Tryz.underlying3
  obtain ⟨n1, h1⟩ := field_bool ht h 1 _ rfl cells4 (by rw [cellsAsk]; decide) Tryz.underlying4
  have hl : xs.toList.length = 2 := hlen.trans cellsAsk
  refine ⟨n0, n1, ?_, w0⟩
  rw [arr_eq (xs := xs) (l := [.int .i64 n0, .bool n1]) ?_]
  match hq : xs.toList, hl with
  | [c0, c1], _ =>
    rw [hq] at h0 h1
    simp at h0 h1
    rw [h0, h1]
end
end Go.Proofs.YtclpljbllnhhbaaGreat
