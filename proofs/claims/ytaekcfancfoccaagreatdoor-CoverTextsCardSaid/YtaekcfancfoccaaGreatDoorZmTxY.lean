/- Plain law of the lines of a text: what strings.Lines yields, and the pieces that the reference reads. -/
import Derived.Test.YtaekcfancfoccaaGreatDoorZmTxA
namespace Go.Proofs.YtaekcfancfoccaaGreatDoor
open Go.Lib

def yl : List (List UInt8) → List (List UInt8)
  | [] => []
  | [x] => if x = [] then [] else [x]
  | x :: y :: t => (x ++ [10]) :: yl (y :: t)
def linesY (l : List UInt8) : List (List UInt8) := yl (cutL 10 l)
theorem linesY_hit (a r : List UInt8) (h : (10 : UInt8) ∉ a) : linesY (a ++ 10 :: r) = (a ++ [10]) :: linesY r := by
  unfold linesY
  rw [cutL_hit _ _ _ h]
  cases hc : cutL 10 r with
  | nil => exact absurd hc (cutL_ne _ _)
  | cons y t => rfl
theorem linesY_miss (a : List UInt8) (h : (10 : UInt8) ∉ a) (h0 : a ≠ []) : linesY a = [a] := by
  unfold linesY
  rw [cutL_miss _ _ h]
  unfold yl
  rw [if_neg h0]
theorem linesY_nil : linesY [] = [] := by
  unfold linesY
  rw [cutL_miss _ _ (by simp)]
  rfl
def linesR (l : List UInt8) : List (List UInt8) := if (cutL 10 l).getLast (cutL_ne 10 l) = [] then (cutL 10 l).dropLast else cutL 10 l
theorem linesR_hit (a r : List UInt8) (h : (10 : UInt8) ∉ a) : linesR (a ++ 10 :: r) = a :: linesR r := by
  have hc := cutL_hit 10 a r h
  have hne := cutL_ne 10 r
  have e1 : (cutL 10 (a ++ 10 :: r)).getLast (cutL_ne 10 _) = (cutL 10 r).getLast hne := by
    simp only [hc]
    rw [List.getLast_cons hne]
  unfold linesR
  rw [e1]
  split
  · rw [hc, List.dropLast_cons_of_ne_nil hne]
  · rw [hc]
theorem linesR_miss (a : List UInt8) (h : (10 : UInt8) ∉ a) (h0 : a ≠ []) : linesR a = [a] := by
  have hc := cutL_miss 10 a h
  unfold linesR
  simp only [hc]
  simp [h0]
theorem linesR_nil : linesR [] = [] := by
  have hc := cutL_miss 10 [] (by simp)
  unfold linesR
  simp only [hc]
  simp
theorem trim_hit (a : List UInt8) : trimSuffix (a ++ [10]) [10] = a := by
  unfold trimSuffix hasSuffix
  simp
theorem trim_miss (a : List UInt8) (h : (10 : UInt8) ∉ a) : trimSuffix a [10] = a := by
  unfold trimSuffix hasSuffix
  rw [if_neg]
  intro hh
  obtain ⟨t, ht⟩ := List.isSuffixOf_iff_suffix.1 hh
  exact h (by rw [← ht]; simp)
theorem lines_trim : ∀ (n : Nat) (l : List UInt8), l.length ≤ n → (linesY l).map (fun x => trimSuffix x [10]) = linesR l
  | 0, l, h => by
    obtain rfl : l = [] := List.length_eq_zero_iff.1 (by omega)
    rw [linesY_nil, linesR_nil]; rfl
  | n + 1, l, h => by
    rcases cutL_split 10 l with hm | ⟨a, r, rfl, ha⟩
    · by_cases h0 : l = []
      · subst h0; rw [linesY_nil, linesR_nil]; rfl
      · rw [linesY_miss l hm h0, linesR_miss l hm h0, List.map_cons, trim_miss l hm, List.map_nil]
    · rw [linesY_hit a r ha, linesR_hit a r ha, List.map_cons, trim_hit, lines_trim n r (by simp at h; omega)]
theorem linesY_length : ∀ (n : Nat) (l : List UInt8), l.length ≤ n → (linesY l).length ≤ n
  | 0, l, h => by
    obtain rfl : l = [] := List.length_eq_zero_iff.1 (by omega)
    rw [linesY_nil]; exact Nat.zero_le _
  | n + 1, l, h => by
    rcases cutL_split 10 l with hm | ⟨a, r, rfl, ha⟩
    · by_cases h0 : l = []
      · subst h0; rw [linesY_nil]; exact Nat.zero_le _
      · rw [linesY_miss l hm h0]; simp
    · rw [linesY_hit a r ha, List.length_cons]
      have := linesY_length n r (by simp at h; omega)
      omega
theorem linesY_size : ∀ (n : Nat) (l x : List UInt8), l.length ≤ n → x ∈ linesY l → x.length ≤ l.length
  | 0, l, x, h, hx => by
    obtain rfl : l = [] := List.length_eq_zero_iff.1 (by omega)
    rw [linesY_nil] at hx; cases hx
  | n + 1, l, x, h, hx => by
    rcases cutL_split 10 l with hm | ⟨a, r, rfl, ha⟩
    · by_cases h0 : l = []
      · subst h0; rw [linesY_nil] at hx; cases hx
      · rw [linesY_miss l hm h0, List.mem_singleton] at hx
        subst hx; exact Nat.le_refl _
    · rw [linesY_hit a r ha] at hx
      simp at h
      rcases List.mem_cons.1 hx with rfl | hx
      · simp
      · have := linesY_size n r x (by omega) hx
        simp; omega
end Go.Proofs.YtaekcfancfoccaaGreatDoor
