/- Rows of things of any kind: cells one behind the other, in general. -/
import Derived.OwnWalk
import Derived.Test.YtmdbpkomanhpoaaGreatDoorZqCvG
namespace Go.Proofs.YtmdbpkomanhpoaaGreatDoor
open Go.RowKit

/-- The cells of things, one behind the other. -/
def rowsC {α : Type} (f : α → List Value) (l : List α) : List Value := l.flatMap f
section
variable {α : Type} {f : α → List Value} {n : Nat}
theorem rowsC_cons (a : α) (l : List α) : rowsC f (a :: l) = f a ++ rowsC f l := rfl
theorem rowsC_append (a b : List α) : rowsC f (a ++ b) = rowsC f a ++ rowsC f b := List.flatMap_append
theorem rowsC_length (hf : ∀ a, (f a).length = n) (l : List α) : (rowsC f l).length = l.length * n := by
  induction l with
  | nil => simp [rowsC]
  | cons p l ih => rw [rowsC_cons, List.length_append, ih, hf, List.length_cons, Nat.add_mul, Nat.one_mul, Nat.add_comm]
theorem rowsC_get (hf : ∀ a, (f a).length = n) : ∀ (l : List α) (k : Nat) (a : α), l[k]? = some a → ∀ j, j < n → (rowsC f l)[k * n + j]? = (f a)[j]?
  | [], k, a, h, _, _ => by simp at h
  | q :: l, 0, a, h, j, hj => by
    obtain rfl : q = a := by simpa using h
    rw [rowsC_cons, Nat.zero_mul, Nat.zero_add, List.getElem?_append_left (by rw [hf]; exact hj)]
  | q :: l, k + 1, a, h, j, hj => by
    have ih := rowsC_get hf l k a (by simpa using h) j hj
    rw [rowsC_cons, List.getElem?_append_right (by rw [hf, Nat.add_mul, Nat.one_mul]; omega), hf, ← ih, Nat.add_mul, Nat.one_mul]
    congr 1
    omega
theorem rowsC_take (hf : ∀ a, (f a).length = n) (l : List α) (k : Nat) : rowsC f (l.take k) = (rowsC f l).take (k * n) := by
  induction l generalizing k with
  | nil => simp [rowsC]
  | cons p l ih =>
    cases k with
    | zero => simp [rowsC]
    | succ k =>
      rw [List.take_succ_cons, rowsC_cons, rowsC_cons, ih, List.take_append, List.take_of_length_le (l := f p) (by rw [hf, Nat.add_mul, Nat.one_mul]; omega), hf, Nat.add_mul, Nat.one_mul, Nat.add_sub_cancel]
theorem Row.takeF (hf : ∀ a, (f a).length = n) {w : World} {B : Nat} {A : Option Addr} {l : List α} (h : Row w B n A l.length (rowsC f l)) {k : Nat} (hk : k ≤ l.length) : Row w B n A k (rowsC f (l.take k)) := by
  have hl : (l.take k).length = k := by simp; omega
  refine ⟨by rw [rowsC_length hf, hl], fun hn => ?_⟩
  obtain ⟨g, o, hA, hb, hc⟩ := h.2 (by omega)
  refine ⟨g, o, hA, hb, fun j u hu => hc j u ?_⟩
  rw [rowsC_take hf, List.getElem?_take] at hu
  split at hu
  · exact hu
  · cases hu
/-- The cells of one thing of a row. -/
theorem Row.at_ (hf : ∀ a, (f a).length = n) {w : World} {B : Nat} {A : Option Addr} {l : List α} (h : Row w B n A l.length (rowsC f l)) {k : Nat} (hk : k < l.length) :
    ∃ g o, A = some ⟨g, o, none⟩ ∧ g < B ∧ ∀ j u, j < n → (f l[k])[j]? = some u → w.cell? ⟨g, o + k * n + j, none⟩ = some u := by
  obtain ⟨g, o, hA, hb, hc⟩ := h.2 (by omega)
  refine ⟨g, o, hA, hb, fun j u hj hu => ?_⟩
  have := hc (k * n + j) u ((rowsC_get hf l k l[k] (List.getElem?_eq_getElem hk) j hj).trans hu)
  rwa [← Nat.add_assoc] at this
theorem Row.news {w : World} {a : Addr} {B m : Nat} {xs : List Value} (h : Row w B n (some a) m xs) : ∀ j u, xs[j]? = some u → w.cell? (a.add j) = some u := by
  intro j u hu
  have hj : 0 < m := by
    have h1 := (List.getElem?_eq_some_iff.1 hu).1
    have h2 := h.1
    rcases Nat.eq_zero_or_pos m with e | e
    · rw [e, Nat.zero_mul] at h2; omega
    · exact e
  obtain ⟨g, o, e, _, hc⟩ := h.2 hj
  cases e
  rw [Addr.add_lit]
  exact hc j u hu
theorem Row.at2 (hf : ∀ a, (f a).length = 2) {w : World} {B : Nat} {A : Option Addr} {l : List α} (h : Row w B 2 A l.length (rowsC f l)) {k : Nat} (hk : k < l.length) {u0 u1 : Value} (e : f l[k] = [u0, u1]) :
    ∃ g o, A = some ⟨g, o, none⟩ ∧ g < B ∧ w.cell? ⟨g, o + k * 2, none⟩ = some u0 ∧ w.cell? ⟨g, o + k * 2 + 1, none⟩ = some u1 := by
  obtain ⟨g, o, hA, hb, hc⟩ := h.at_ hf hk
  rw [e] at hc
  exact ⟨g, o, hA, hb, hc 0 _ (by omega) rfl, hc 1 _ (by omega) rfl⟩
theorem Row.at3 (hf : ∀ a, (f a).length = 3) {w : World} {B : Nat} {A : Option Addr} {l : List α} (h : Row w B 3 A l.length (rowsC f l)) {k : Nat} (hk : k < l.length) {u0 u1 u2 : Value} (e : f l[k] = [u0, u1, u2]) :
    ∃ g o, A = some ⟨g, o, none⟩ ∧ g < B ∧ w.cell? ⟨g, o + k * 3, none⟩ = some u0 ∧ w.cell? ⟨g, o + k * 3 + 1, none⟩ = some u1 ∧ w.cell? ⟨g, o + k * 3 + 2, none⟩ = some u2 := by
  obtain ⟨g, o, hA, hb, hc⟩ := h.at_ hf hk
  rw [e] at hc
  exact ⟨g, o, hA, hb, hc 0 _ (by omega) rfl, hc 1 _ (by omega) rfl, hc 2 _ (by omega) rfl⟩
theorem Row.at4 (hf : ∀ a, (f a).length = 4) {w : World} {B : Nat} {A : Option Addr} {l : List α} (h : Row w B 4 A l.length (rowsC f l)) {k : Nat} (hk : k < l.length) {u0 u1 u2 u3 : Value} (e : f l[k] = [u0, u1, u2, u3]) :
    ∃ g o, A = some ⟨g, o, none⟩ ∧ g < B ∧ w.cell? ⟨g, o + k * 4, none⟩ = some u0 ∧ w.cell? ⟨g, o + k * 4 + 1, none⟩ = some u1 ∧ w.cell? ⟨g, o + k * 4 + 2, none⟩ = some u2 ∧ w.cell? ⟨g, o + k * 4 + 3, none⟩ = some u3 := by
  obtain ⟨g, o, hA, hb, hc⟩ := h.at_ hf hk
  rw [e] at hc
  exact ⟨g, o, hA, hb, hc 0 _ (by omega) rfl, hc 1 _ (by omega) rfl, hc 2 _ (by omega) rfl, hc 3 _ (by omega) rfl⟩
end

/-- The first number with an error, and this error; (0, 0): there is none. -/
def firstE (e : Nat → Int) (n : Nat) : Int × Int :=
  match (List.range n).find? fun j => decide (e j ≠ 0) with
  | some k => ((k : Int), e k)
  | none => (0, 0)
/-- There is no error ahead of a number. -/
def FineTo (e : Nat → Int) (k : Nat) : Prop := ∀ j, j < k → e j = 0
theorem FineTo.zero (e : Nat → Int) : FineTo e 0 := fun _ h => absurd h (by omega)
theorem FineTo.step {e : Nat → Int} {k : Nat} (h : FineTo e k) (hk : e k = 0) : FineTo e (k + 1) := fun j hj => by
  by_cases q : j = k
  · rw [q]; exact hk
  · exact h j (by omega)
theorem firstE_end {e : Nat → Int} {n : Nat} (h : FineTo e n) : firstE e n = (0, 0) := by
  unfold firstE
  rw [List.find?_eq_none.2 (fun j hj => by simp [h j (List.mem_range.1 hj)])]
theorem firstE_bad {e : Nat → Int} {n k : Nat} (h : FineTo e k) (hk : k < n) (he : e k ≠ 0) : firstE e n = ((k : Int), e k) := by
  unfold firstE
  rw [List.find?_range_eq_some.2 ⟨by simpa using he, List.mem_range.2 hk, fun j hj => by simp [h j hj]⟩]
theorem firstE_congr {e e' : Nat → Int} {n : Nat} (h : ∀ j, j < n → e j = e' j) : firstE e n = firstE e' n := by
  by_cases hf : ∃ k, k < n ∧ FineTo e k ∧ e k ≠ 0
  · obtain ⟨k, hk, hF, he⟩ := hf
    rw [firstE_bad hF hk he, firstE_bad (e := e') (fun j hj => (h j (by omega)).symm.trans (hF j hj)) hk (by rw [← h k hk]; exact he), h k hk]
  · have hF : ∀ k, k ≤ n → FineTo e k := fun k => by
      induction k with
      | zero => exact fun _ => FineTo.zero e
      | succ k ih => exact fun hk => (ih (by omega)).step (Classical.byContradiction fun he => hf ⟨k, by omega, ih (by omega), he⟩)
    rw [firstE_end (hF n (Nat.le_refl _)), firstE_end (e := e') (fun j hj => (h j hj).symm.trans (hF n (Nat.le_refl _) j hj))]
end Go.Proofs.YtmdbpkomanhpoaaGreatDoor

namespace Go.Proofs.YtmdbpkomanhpoaaGreatDoor
open Go.RowKit
/-- The number of the first thing of which something is so, or -1. -/
def idxV {α : Type} (P : α → Bool) (l : List α) : Int := match l.findIdx? P with | some k => (k : Int) | none => -1
theorem idxV_hit {α : Type} {P : α → Bool} {l : List α} {k : Nat} (hk : k < l.length) (h : (l.take k).any P = false) (hp : P l[k] = true) : idxV P l = (k : Int) := by
  unfold idxV
  have h1 : l.findIdx? P = some k := by
    rw [List.findIdx?_eq_some_iff_getElem]
    refine ⟨hk, hp, fun j hj => ?_⟩
    have := List.any_eq_false.1 h (l[j]'(by omega)) (List.mem_take_iff_getElem.2 ⟨j, by omega, rfl⟩)
    simpa using this
  rw [h1]
theorem idxV_none {α : Type} {P : α → Bool} {l : List α} (h : l.any P = false) : idxV P l = -1 := by
  unfold idxV
  rw [List.findIdx?_eq_none_iff.2 (fun x hx => by simpa using List.any_eq_false.1 h x hx)]
theorem idxV_any {α : Type} (P : α → Bool) (l : List α) : decide (0 ≤ idxV P l) = l.any P := by
  unfold idxV
  cases h : l.findIdx? P with
  | none => rw [List.any_eq_false.2 (fun x hx => by simpa using List.findIdx?_eq_none_iff.1 h x hx)]; rfl
  | some k =>
    obtain ⟨hk, hp, _⟩ := List.findIdx?_eq_some_iff_getElem.1 h
    rw [List.any_eq_true.2 ⟨_, List.getElem_mem hk, hp⟩]
    simp
theorem idxV_lt {α : Type} {P : α → Bool} {l : List α} {k : Nat} (h : idxV P l = (k : Int)) : ∃ hk : k < l.length, P l[k] = true := by
  unfold idxV at h
  cases h1 : l.findIdx? P with
  | none => rw [h1] at h; simp at h
  | some j =>
    rw [h1] at h
    obtain ⟨hk, hp, _⟩ := List.findIdx?_eq_some_iff_getElem.1 h1
    obtain rfl : j = k := Int.ofNat.inj h
    exact ⟨hk, hp⟩
end Go.Proofs.YtmdbpkomanhpoaaGreatDoor
