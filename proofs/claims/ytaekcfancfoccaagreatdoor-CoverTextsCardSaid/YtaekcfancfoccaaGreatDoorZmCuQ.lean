/- What a text gives (plain law): the joint, or the mark and the error. -/
import Derived.Test.YtaekcfancfoccaaGreatDoorZmCuO
import Derived.Test.YtaekcfancfoccaaGreatDoorZmTxY
namespace Go.Proofs.YtaekcfancfoccaaGreatDoor
open Go.RowKit Go.Lib

def joZ : Jo := ⟨⟨#[]⟩, 0, 0, []⟩
def lineWs (l : List UInt8) : List (ByteArray × Int) := wordsC (strB l) (lineW (strB l))
def stepP (st : Option Jo) (ws : List (ByteArray × Int)) : Option Jo × Nat × Int :=
  match st with
  | none => (some ⟨(headP ws).1.1, (headP ws).1.2.1, (headP ws).1.2.2, []⟩, (headP ws).2)
  | some j => (some (joF j (faceP j ws).1), (faceP j ws).2)
def parseL : Nat → Option Jo → List (List UInt8) → Jo × (Int × Int) × Int
  | k, none, [] => (joZ, ((k : Int) + 1, 1), 6)
  | _, some j, [] => (j, (0, 0), 0)
  | k, st, l :: r =>
    if lineWs l = [] then parseL (k + 1) st r
    else if (stepP st (lineWs l)).2.2 = 0 then parseL (k + 1) (stepP st (lineWs l)).1 r
    else (joZ, ((k : Int) + 1, colW (lineWs l) (stepP st (lineWs l)).2.1), (stepP st (lineWs l)).2.2)
def parseT (t : ByteArray) : Jo × (Int × Int) × Int := if 60000 < t.size then (joZ, (0, 0), 8) else parseL 0 none (linesR t.data.toList)
theorem parseL_skip {k : Nat} {st : Option Jo} {l : List UInt8} {r : List (List UInt8)} (h : lineWs l = []) : parseL k st (l :: r) = parseL (k + 1) st r := by
  cases st <;> rw [parseL, if_pos h]
theorem parseL_bad {k : Nat} {st : Option Jo} {l : List UInt8} {r : List (List UInt8)} (h : ¬ lineWs l = []) (h2 : ¬ (stepP st (lineWs l)).2.2 = 0) : parseL k st (l :: r) = (joZ, ((k : Int) + 1, colW (lineWs l) (stepP st (lineWs l)).2.1), (stepP st (lineWs l)).2.2) := by
  cases st <;> rw [parseL, if_neg h, if_neg h2]
theorem parseL_go {k : Nat} {st : Option Jo} {l : List UInt8} {r : List (List UInt8)} (h : ¬ lineWs l = []) (h2 : (stepP st (lineWs l)).2.2 = 0) : parseL k st (l :: r) = parseL (k + 1) (stepP st (lineWs l)).1 r := by
  cases st <;> rw [parseL, if_neg h, if_pos h2]
theorem faceP_room {j : Jo} {ws : List (ByteArray × Int)} (h : j.fs.length ≤ 12) : (joF j (faceP j ws).1).fs.length ≤ 12 := by
  cases hq : (faceP j ws).1 with
  | none => exact h
  | some p =>
    show (j.fs ++ [p]).length ≤ 12
    have : ¬ j.fs.length = 12 := fun e => by
      unfold faceP at hq
      split at hq
      · cases hq
      · split at hq
        · cases hq
        · first | (cases hq; done) | (rw [if_pos e] at hq; cases hq)
    simp; omega
theorem wordsW_mem (l : List UInt8) : ∀ (n i : Nat), l.length - i ≤ n → ∀ p ∈ wordsW l i, p.1 < l.length ∧ p.2 ≤ l.length
  | 0, i, h, p, hp => by rw [wordsW_end l i (by omega)] at hp; cases hp
  | n + 1, i, h, p, hp => by
    by_cases hi : i < l.length
    · cases hb : blankB l[i] with
      | true =>
        rw [wordsW_blank l i hi hb] at hp
        exact wordsW_mem l n (i + 1) (by omega) p hp
      | false =>
        rw [wordsW_word l i hi hb] at hp
        have hg := runEnd_ge l _ i rfl
        have he := runEnd_le l _ i rfl (by omega)
        rcases List.mem_cons.1 hp with rfl | hp
        · exact ⟨hi, he⟩
        · exact wordsW_mem l n (runEnd l i + 1) (by omega) p hp
    · rw [wordsW_end l i hi] at hp; cases hp
theorem words_size (s : ByteArray) {B : Nat} (hs : s.size ≤ B) : ∀ p ∈ wordsC s (lineW s), p.1.size ≤ B ∧ 0 ≤ p.2 ∧ p.2 ≤ (B : Int) := by
  intro p hp
  unfold wordsC at hp
  obtain ⟨q, hq, rfl⟩ := List.mem_map.1 hp
  have hz : s.data.toList.length = s.size := by rw [Array.length_toList]; rfl
  obtain ⟨h1, h2⟩ := wordsW_mem s.data.toList _ 0 (Nat.le_refl _) q hq
  refine ⟨?_, by simp only; omega, by simp only; omega⟩
  show (s.extract q.1 q.2).size ≤ B
  rw [ByteArray.size_extract]
  omega
theorem lineW_len (s : ByteArray) : (lineW s).length ≤ s.size := by
  have hz : s.data.toList.length = s.size := by rw [Array.length_toList]; rfl
  have := wordsW_length s.data.toList s.data.toList.length 0 (by omega)
  unfold lineW; omega
end Go.Proofs.YtaekcfancfoccaaGreatDoor
