/- The law FlawScans answers true. -/
import Derived.Test.YtclpljbllnhhbaaGreatZeFgC
import Derived.Test.YtclpljbllnhhbaaGreatZeFcP
namespace Go.Proofs.YtclpljbllnhhbaaGreat
open Go.RowKit

theorem fewB_true {l : List Sc} (h : fewB l = true) : l.length ≤ 8 ∧ ∀ s ∈ l, s.data.length ≤ 36 := by
  unfold fewB at h
  split at h
  · cases h
  · exact ⟨by omega, fun m hm => of_decide_eq_true (List.all_eq_true.1 h m hm)⟩
/-- What an argument of scans brings. -/
structure ScArg (l : List Sc) (A : Option Addr) (c : Nat) (w : World) : Prop where
  nil : A = none → c = 0
  row : Row w w.heap.size 5 A l.length (scsC l)
  le : l.length ≤ c
  most : c ≤ 9223372036854775807
  each : ∀ s ∈ l, (s.dA = none → s.dcap = 0) ∧ Row w w.heap.size 1 s.dA s.data.length (intsC s.data) ∧ s.data.length ≤ s.dcap ∧ s.dcap ≤ 9223372036854775807
theorem ScArg.ok {l : List Sc} {A : Option Addr} {c : Nat} {w : World} (h : ScArg l A c w) (hf : fewB l = true) : ScOk l A w.heap.size w :=
  ⟨by have := (fewB_true hf).1; omega, h.row, fun s hs => by have := (fewB_true hf).2 s hs; omega, fun s hs => (h.each s hs).2.1⟩

end Go.Proofs.YtclpljbllnhhbaaGreat
