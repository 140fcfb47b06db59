/- Contracts: the examples of chapter 7 that the programs through the layers ask; the reference's error of set-ups; copies of set-ups; right joints and plans. Contracts: what set-ups meet of each face; whether a plan covers a joint. -/
import Derived.Test.YtfgeipapmdhneaaDoorZsCwB
import Derived.Test.YtfgeipapmdhneaaDoorZsCvZb
import Derived.Test.YtfgeipapmdhneaaDoorZsCwI
import Derived.Test.YtfgeipapmdhneaaDoorZsCvI
import Derived.Test.YtfgeipapmdhneaaDoorZsCvY
namespace Go.Proofs.YtfgeipapmdhneaaDoor
open Go.RowKit

set_option maxRecDepth 100000 in
set_option maxHeartbeats 4000000 in
theorem covering_any (w : World) (hE : Ends w) : Calls Tryd.prog 4 #[] w fun e w' => e = .returned (.bool true) ∧ Below w.heap.size w w' := by
  have HE := Lib.hid hE; clear hE
  go_enter Tryd.func4, Tryd.ntmps4
  go_wp2_with fail
  refine (slant_any _).mono ?_
  rintro e w1 ⟨A1, c1, rfl, hj1, hB1⟩
  go_wp2_with fail
  refine (direct_any _).mono ?_
  rintro e w2 ⟨rfl, hB2⟩
  unfold suC dirN dirS
  have hA2 : Below w.heap.size w w2 := hB1.trans (hB2.mono hB1.size)
  go_wp2_with fail
  refine (partOf_any slantJ 0 dirN dirS A1 c1 _ w2 (hj1.below hB2 (Nat.le_refl _)) (HE.out.below hA2) dirN_size dir_wf).mono ?_
  rw [ex_partV]
  rintro e w3 ⟨rfl, hB3⟩
  have hA3 : Below w.heap.size w w3 := hA2.trans (hB3.mono hA2.size)
  clear hB1 hB2 hB3 hj1 hA2
  have hs3 := Below.size hA3
  have b1 := Blk.new w3 51 #[.int .i64 0, .int .i64 1, .int .i64 1, .int .i64 2]
  have hA4 := hA3.alloc hs3 (.cells #[.int .i64 0, .int .i64 1, .int .i64 1, .int .i64 2] 51 (0, 0))
  go_wp2_with fail
  have bn := Blk.new' (w3.alloc (.cells #[.int .i64 0, .int .i64 1, .int .i64 1, .int .i64 2] 51)) 3 #[.int .i64 38, .int .i64 20] (g := w3.heap.size + 1) (by simp)
  have b1 := b1.alloc (.cells #[.int .i64 38, .int .i64 20] 3 (0, 0))
  have hA5 := hA4.alloc (Below.size hA4) (.cells #[.int .i64 38, .int .i64 20] 3 (0, 0))
  have hin : InOk [38, 20] (some ⟨w3.heap.size + 1, 0, none⟩) 2 (w3.heap.size + 2) ((w3.alloc (.cells #[.int .i64 0, .int .i64 1, .int .i64 1, .int .i64 2] 51)).alloc (.cells #[.int .i64 38, .int .i64 20] 3)) := by
    refine ⟨by simp, ?_, ⟨rfl, fun _ => ⟨w3.heap.size + 1, 0, rfl, by omega, fun j u hu => ?_⟩⟩, by simp⟩
    · intro p hp; simp at hp; rcases hp with rfl | rfl <;> simp [I64]
    · rw [Nat.zero_add, bn.cell j, List.getElem?_toArray]
      exact hu
  refine (anew_any exT [38, 20] (some ⟨w3.heap.size + 1, 0, none⟩) 2 (w3.heap.size + 2) _ hin).mono ?_
  rw [ex_open, ex_anew]
  rintro e w10 ⟨v7, rfl, own7, hB10⟩
  have b1 := b1.below hB10 b1.lt
  have hA15 := hA5.trans (hB10.mono (Below.size hA5))
  have own7 := own7.mono (base' := w.heap.size) (Below.size hA5)
  clear hA3 hA4 hA5 hin bn hB10 hs3
  generalize w3.heap.size = g1 at *
  obtain ⟨A7, c7, hv7, hR7⟩ := Row.own own7
  subst hv7
  clear own7
  have l1 := b1.lt
  obtain ⟨d0, d1, d2, d3, _⟩ := blk4 b1
  simp only [List.length_cons, List.length_nil, Nat.zero_add, Nat.reduceAdd] at hR7
  go_wp2_with fail
  have bA := Blk.new w10 46 #[.int .i64 0, .int .i64 11, .int .i64 29, .int .i64 29, .int .i64 47, .int .i64 100]
  have hA16 := hA15.alloc (Below.size hA15) (.cells #[.int .i64 0, .int .i64 11, .int .i64 29, .int .i64 29, .int .i64 47, .int .i64 100] 46 (0, 0))
  have hRA : Row (w10.alloc (.cells #[.int .i64 0, .int .i64 11, .int .i64 29, .int .i64 29, .int .i64 47, .int .i64 100] 46)) (w10.heap.size + 1) 2 (some ⟨w10.heap.size, 0, none⟩) 3 (rngsC [(0, 11), (29, 29), (47, 100)]) := ⟨rfl, fun _ => ⟨w10.heap.size, 0, rfl, by omega, fun j u hu => by rw [Nat.zero_add, bA.cell j, List.getElem?_toArray]; exact hu⟩⟩
  have hR7B := (hR7.alloc (Nat.le_refl _) (.cells #[.int .i64 0, .int .i64 11, .int .i64 29, .int .i64 29, .int .i64 47, .int .i64 100] 46 (0, 0))).more (B' := w10.heap.size + 1) (by omega)
  have hd : decide ([((0 : Int), (11 : Int)), (29, 29), (47, 100)] = [(0, 11), (29, 29), (47, 100)]) = true := by decide
  refine (ranges_any [(0, 11), (29, 29), (47, 100)] [(0, 11), (29, 29), (47, 100)] A7 (some ⟨w10.heap.size, 0, none⟩) c7 3 (w10.heap.size + 1) _ (by simp) (by simp) hR7B hRA (by simp)).mono ?_
  rw [hd]
  rintro e w12 ⟨rfl, hB12⟩
  go_wp2
  go_ret
  exact ⟨rfl, hA16.trans (hB12.mono (Below.size hA16))⟩

/-! ### set-ups -/

/-! ### a joint and a plan -/

end Go.Proofs.YtfgeipapmdhneaaDoor

namespace Go.Proofs.YtfgeipapmdhneaaDoor
open Go.RowKit

end Go.Proofs.YtfgeipapmdhneaaDoor
