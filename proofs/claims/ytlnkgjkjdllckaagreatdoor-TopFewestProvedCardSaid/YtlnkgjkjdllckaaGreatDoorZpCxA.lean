/- Contract: the examples of the statements are so. Contract of the law CoverExactly: true. -/
import Derived.Test.YtlnkgjkjdllckaaGreatDoorZpCwD
import Derived.Test.YtlnkgjkjdllckaaGreatDoorZpCvZb
import Derived.Test.YtlnkgjkjdllckaaGreatDoorZpCwH
import Derived.Test.YtlnkgjkjdllckaaGreatDoorZpCwY
import Derived.Test.YtlnkgjkjdllckaaGreatDoorZpCwZ
namespace Go.Proofs.YtlnkgjkjdllckaaGreatDoor
open Go.RowKit

theorem JoOk.more {j : Jo} {A : Option Addr} {c B B' : Nat} {w : World} (h : JoOk j A c B w) (hB : B ≤ B') (hw : B' ≤ w.heap.size) : JoOk j A c B' w := ⟨h.nm, h.fs, h.len, h.cap, h.row.more hB, hw⟩

theorem ex_partV : prC (partOfR slantJ 0 dirN dirS) = .tuple #[.agg #[.int .i64 0, .int .i64 1, .int .i64 1, .int .i64 2], .int .i64 0] := by rw [ex_part]; rfl
theorem dirN_size : dirN.size ≤ 1000000000000 := by simp [dirN, ByteArray.size]

end Go.Proofs.YtlnkgjkjdllckaaGreatDoor

namespace Go.Proofs.YtlnkgjkjdllckaaGreatDoor
open Go.RowKit

theorem own_caps {w : World} {base e size n cap : Nat} {A : Option Addr} {xs : List Value} (h : w.ownsRow base e size (.slice A n cap) n xs) : cap ≤ 9223372036854775807 ∧ n ≤ cap ∧ (A = none → cap = 0) := by
  rcases h.2 with ⟨h1, rfl⟩ | ⟨g, cap', cur, h1, _, _, hn, hm, _⟩
  · simp at h1; omega
  · simp at h1
    obtain ⟨rfl, rfl⟩ := h1
    exact ⟨by simpa [maxLen] using hm, hn, by simp⟩
theorem fewB_all {j : Jo} (h : fewB j = true) : j.fs.length ≤ 14 ∧ j.nm.size ≤ 20 ∧ ∀ p ∈ j.fs, p.1.size ≤ 20 := by
  unfold fewB at h
  simp only [Bool.and_eq_true, Bool.not_eq_true', Bool.or_eq_false_iff, List.all_eq_true, decide_eq_true_eq, decide_eq_false_iff_not] at h
  exact ⟨by omega, by omega, h.2⟩
theorem JoOk.mk_ {j : Jo} {A : Option Addr} {c B : Nat} {w : World} (h1 : ∀ p ∈ j.fs, p.1.size ≤ 20) (h2 : j.nm.size ≤ 20) (h3 : j.fs.length ≤ c) (h4 : c ≤ 9223372036854775807) (h5 : Row w B 5 A j.fs.length (fcsC j.fs)) (h6 : B ≤ w.heap.size) : JoOk j A c B w :=
  ⟨by omega, fun p hp => by have := h1 p hp; omega, h3, h4, h5, h6⟩
/-- A copied joint. -/
theorem copied {j : Jo} {A : Option Addr} {c B : Nat} {w w' : World} {v : Value} (hj : JoOk j A c B w) (own : w'.ownsRow w.heap.size 100 5 v j.fs.length (fcsC j.fs)) :
    ∃ A3 c3, v = .slice A3 j.fs.length c3 ∧ JoOk j A3 c3 w'.heap.size w' ∧ (A3 = none → c3 = 0) := by
  obtain ⟨A3, c3, hv3, hn3, _⟩ := own_shape own
  subst hv3
  have hc3 := own_caps own
  obtain ⟨A3', c3', hv3, hR3⟩ := Row.own own
  simp only [Value.slice.injEq, true_and] at hv3
  obtain ⟨rfl, rfl⟩ := hv3
  exact ⟨A3, c3, rfl, ⟨hj.nm, hj.fs, hn3, hc3.1, hR3, Nat.le_refl _⟩, hc3.2.2⟩

theorem isMetR_yes {j : Jo} {face : Int} {sn : ByteArray} {s : Su} {n d : Int} (h : askE j face sn s = 0) (h1 : ptE n d = 0) : isMetR j face sn s n d = ((metV j.thick (faceAt j face) s).has n d, 0) := by unfold isMetR; rw [if_pos h, if_pos h1]

end Go.Proofs.YtlnkgjkjdllckaaGreatDoor
