/- Contracts: the error of a face, of a joint, of a set-up, of an ask. -/
import Derived.Test.YtmdbpkomanhpoaaGreatDoorZqCvF
namespace Go.Proofs.YtmdbpkomanhpoaaGreatDoor
open Go.RowKit

/-- The cells of faces, one behind the other. -/
def fcsC (fs : List (ByteArray × Fc)) : List Value := fs.flatMap fun p => [.string p.1, .int .i64 p.2.fx, .int .i64 p.2.fz, .int .i64 p.2.tx, .int .i64 p.2.tz]
theorem fcsC_length (fs : List (ByteArray × Fc)) : (fcsC fs).length = fs.length * 5 := by
  induction fs with
  | nil => rfl
  | cons p l ih => simp only [fcsC, List.flatMap_cons, List.length_append] at ih ⊢; rw [ih]; simp; omega

/-- A slice that reads as a list of cells: its row lies below block B. -/
def Row (w : World) (B size : Nat) (A : Option Addr) (n : Nat) (xs : List Value) : Prop :=
  xs.length = n * size ∧ (0 < n → ∃ g o, A = some ⟨g, o, none⟩ ∧ g < B ∧ ∀ j u, xs[j]? = some u → w.cell? ⟨g, o + j, none⟩ = some u)
section
variable {w w' : World} {B B' size n : Nat} {A : Option Addr} {xs : List Value}
theorem Row.nil_ : Row w B size A 0 [] := ⟨by simp, fun h => absurd h (by omega)⟩
theorem Row.keep (h : Row w B size A n xs) (hk : ∀ b o, b < B → w'.cell? ⟨b, o, none⟩ = w.cell? ⟨b, o, none⟩) : Row w' B size A n xs :=
  ⟨h.1, fun hn => by
    obtain ⟨g, o, e, hb, hc⟩ := h.2 hn
    exact ⟨g, o, e, hb, fun j u hu => (hk _ _ hb).trans (hc j u hu)⟩⟩
theorem Row.more (h : Row w B size A n xs) (hB : B ≤ B') : Row w B' size A n xs :=
  ⟨h.1, fun hn => by
    obtain ⟨g, o, e, hb, hc⟩ := h.2 hn
    exact ⟨g, o, e, by omega, hc⟩⟩
theorem Row.below (h : Row w B size A n xs) {C : Nat} (hb : Below C w w') (hC : B ≤ C) : Row w' B size A n xs := h.keep fun b o hp => hb.cell (p := ⟨b, o, none⟩) (by simp; omega)
theorem Row.alloc (h : Row w B size A n xs) (hB : B ≤ w.heap.size) (o : Obj) : Row (w.alloc o) B size A n xs := h.keep fun b p hp => World.cell?_alloc_lt w o _ (by simp; omega)
theorem Row.setCell (h : Row w B size A n xs) {p : Addr} (hB : B ≤ p.block) (u : Value) : Row (w.setCell p u) B size A n xs :=
  h.keep fun b o hb => World.cell?_setCell_other w p _ u (fun e => by subst e; simp at hB; omega)
theorem Row.drew (h : Row w B size A n xs) : Row w.drew B size A n xs := h
theorem Row.drewN (h : Row w B size A n xs) (k : Nat) : Row (w.drewN k) B size A n xs := h
end

/-- Whether two texts are the same. -/
def sameB (a b : ByteArray) : Bool := a.toList == b.toList

theorem any_take_snoc {α : Type} (l : List α) (k : Nat) (h : k < l.length) (q : α → Bool) : (l.take (k + 1)).any q = ((l.take k).any q || q l[k]) := by
  rw [List.take_succ_eq_append_getElem h, List.any_append]; simp

theorem fcsC_take (fs : List (ByteArray × Fc)) (k : Nat) : fcsC (fs.take k) = (fcsC fs).take (k * 5) := by
  induction fs generalizing k with
  | nil => simp [fcsC]
  | cons p l ih =>
    cases k with
    | zero => simp [fcsC]
    | succ k => 
      have := ih k
      simp only [fcsC, List.take_succ_cons, List.flatMap_cons] at this ⊢
      rw [this, show (k + 1) * 5 = k * 5 + 5 by omega]
      rfl
theorem Row.take {w : World} {B : Nat} {A : Option Addr} {fs : List (ByteArray × Fc)} (h : Row w B 5 A fs.length (fcsC fs)) {k : Nat} (hk : k ≤ fs.length) : Row w B 5 A (fs.take k).length (fcsC (fs.take k)) := by
  refine ⟨fcsC_length _, fun hn => ?_⟩
  have hl : (fs.take k).length ≤ k := List.length_take_le _ _
  obtain ⟨g, o, hA, hb, hc⟩ := h.2 (by omega)
  refine ⟨g, o, hA, hb, fun j u hu => hc j u ?_⟩
  rw [fcsC_take, List.getElem?_take] at hu
  split at hu
  · exact hu
  · cases hu

end Go.Proofs.YtmdbpkomanhpoaaGreatDoor
