/- Contracts: the error of a set-up and of an ask; what a set-up meets, told. Contracts: the part of a face that a set-up meets; whether it meets a point. Contracts: the numbers of all set-ups; what set-ups meet of a face. -/
import Derived.Deep.Onto
import Derived.Test.YtmdbpkomanhpoaaGreatDoorZqCvG
namespace Go.Proofs.YtmdbpkomanhpoaaGreatDoor
open Go.RowKit

abbrev I64 (x : Int) : Prop := -9223372036854775808 ≤ x ∧ x ≤ 9223372036854775807

end Go.Proofs.YtmdbpkomanhpoaaGreatDoor

namespace Go.Proofs.YtmdbpkomanhpoaaGreatDoor
open Go.RowKit

theorem blk4 {w : World} {g t : Nat} {v0 v1 v2 v3 : Value} (h : Blk w g t #[v0, v1, v2, v3]) :
    w.cell? ⟨g, 0, none⟩ = some v0 ∧ w.cell? ⟨g, 1, none⟩ = some v1 ∧ w.cell? ⟨g, 2, none⟩ = some v2 ∧ w.cell? ⟨g, 3, none⟩ = some v3 ∧ ∀ i, w.frozen? ⟨g, i, none⟩ = false :=
  ⟨h.cell 0, h.cell 1, h.cell 2, h.cell 3, h.frozen⟩
theorem Below.set4 {n g : Nat} {a b : World} {u0 u1 u2 u3 : Value} (h : Below n a b) (hg : n ≤ g) :
    Below n a ((((b.setCell ⟨g, 0, none⟩ u0).setCell ⟨g, 1, none⟩ u1).setCell ⟨g, 2, none⟩ u2).setCell ⟨g, 3, none⟩ u3) :=
  (((h.setCell hg _).setCell hg _).setCell hg _).setCell hg _
theorem Blk.set4 {g : Nat} {b : World} {t : TypeId} {v0 v1 v2 v3 : Value} (h : Blk b g t #[v0, v1, v2, v3]) (u0 u1 u2 u3 : Value) :
    Blk ((((b.setCell ⟨g, 0, none⟩ u0).setCell ⟨g, 1, none⟩ u1).setCell ⟨g, 2, none⟩ u2).setCell ⟨g, 3, none⟩ u3) g t #[u0, u1, u2, u3] :=
  (((h.set_ 0 u0).set_ 1 u1).set_ 2 u2).set_ 3 u3

end Go.Proofs.YtmdbpkomanhpoaaGreatDoor

namespace Go.Proofs.YtmdbpkomanhpoaaGreatDoor
open Go.RowKit

theorem infoInt : (Tryz.prog.info? 3).map (fun i => (i.zero, i.size, i.bytes)) = some (some (.int .i64 0), 1, 8) := by kernel_rfl

def intsC (l : List Int) : List Value := l.map (Value.int .i64)

theorem own_ne {w : World} {base e size n g : Nat} {v : Value} {xs : List Value} (h : w.ownsRow base e size v n xs) (hg : g < base ∨ w.heap.size ≤ g) : some g ≠ v.ownBlock := by
  rcases h.2 with ⟨rfl, _⟩ | ⟨g', cap, cur, rfl, hb, hh, _⟩
  · simp [Value.ownBlock]
  · intro e
    have : g = g' := by simpa [Value.ownBlock] using e
    subst this
    have : g < w.heap.size := (Array.getElem?_eq_some_iff.1 hh).1
    omega

theorem own_below {w w' : World} {base e size n : Nat} {v : Value} {xs : List Value} (h : w.ownsRow base e size v n xs) (hb : Below w.heap.size w w') : w'.ownsRow base e size v n xs :=
  h.kept (only_of_below hb none) (by cases hv : v.ownBlock <;> simp)
theorem below_own {a b d : World} {base e size n : Nat} {v : Value} {xs : List Value} (h : Below a.heap.size a b) (hb : a.heap.size ≤ base) (hown : b.ownsRow base e size v n xs) (k : b.grownBy d v.ownBlock) : Below a.heap.size a d :=
  h.grown k (Below.size h) (fun g e => by
    rcases hown.2 with ⟨rfl, _⟩ | ⟨g', cap, cur, rfl, hb', _⟩
    · cases e
    · simp [Value.ownBlock] at e; omega)

end Go.Proofs.YtmdbpkomanhpoaaGreatDoor
