/- Plain law: pairs and covers of two lists; no pairs that are right are more than a right cover's members. -/
import Derived.Test.YtidgeagpgllkeaaGreatZdFkA
namespace Go.Proofs.YtidgeagpgllkeaaGreat

/-- The first error of so many. -/
def firstBad (f : Nat → Int) : Nat → Int
  | 0 => 0
  | n + 1 => if firstBad f n = 0 then f n else firstBad f n
theorem firstBad_pre {f : Nat → Int} : ∀ {k : Nat}, (∀ j, j < k → f j = 0) → firstBad f k = 0
  | 0, _ => rfl
  | k + 1, h => by
    unfold firstBad
    rw [if_pos (firstBad_pre fun j hj => h j (by omega))]
    exact h k (by omega)
theorem firstBad_at {f : Nat → Int} {k : Nat} (h : ∀ j, j < k → f j = 0) (he : f k ≠ 0) : ∀ {n : Nat}, k < n → firstBad f n = f k
  | 0, hk => by omega
  | n + 1, hk => by
    unfold firstBad
    by_cases e : k = n
    · subst e; rw [if_pos (firstBad_pre h)]
    · rw [firstBad_at h he (n := n) (by omega), if_neg he]
theorem firstBad_zero {f : Nat → Int} : ∀ {n : Nat}, firstBad f n = 0 → ∀ j, j < n → f j = 0
  | 0, _, j, hj => by omega
  | n + 1, h, j, hj => by
    unfold firstBad at h
    split at h
    · rename_i h0
      by_cases e : j = n
      · subst e; exact h
      · exact firstBad_zero h0 j (by omega)
    · rename_i h0; exact absurd h h0
/-- The error of a pair behind others. -/
def pairB (n m : Nat) (R : Int → Int → Bool) (seen : List (Int × Int)) (p : Int × Int) : Int :=
  if (wi p.1 0 ((n : Int) - 1) && wi p.2 0 ((m : Int) - 1)) = false then 6
  else if (seen.any (fun q => decide (q.1 = p.1)) || seen.any (fun q => decide (q.2 = p.2))) = true then 24
  else if R p.1 p.2 = false then 18 else 0
def pairsB (n m : Nat) (R : Int → Int → Bool) (P : List (Int × Int)) (k : Nat) : Int := pairB n m R (P.take k) (P[k]?.getD (0, 0))
def pairsE (n m : Nat) (R : Int → Int → Bool) (P : List (Int × Int)) : Int := firstBad (pairsB n m R P) P.length
theorem pairB_zero {n m : Nat} {R : Int → Int → Bool} {seen : List (Int × Int)} {p : Int × Int} (h : pairB n m R seen p = 0) :
    (0 ≤ p.1 ∧ p.1 < n) ∧ (0 ≤ p.2 ∧ p.2 < m) ∧ (∀ q ∈ seen, q.1 ≠ p.1 ∧ q.2 ≠ p.2) ∧ R p.1 p.2 = true := by
  unfold pairB at h
  split at h
  · cases h
  · rename_i h1
    split at h
    · cases h
    · rename_i h2
      split at h
      · cases h
      · rename_i h3
        simp [wi] at h1
        simp only [Bool.or_eq_true, not_or, List.any_eq_true, decide_eq_true_eq, not_exists, not_and] at h2
        refine ⟨by omega, by omega, fun q hq => ⟨h2.1 q hq, h2.2 q hq⟩, by simpa using h3⟩
/-- Right pairs. -/
structure PairsOk (n m : Nat) (R : Int → Int → Bool) (P : List (Int × Int)) : Prop where
  one : ∀ p ∈ P, (0 ≤ p.1 ∧ p.1 < n) ∧ (0 ≤ p.2 ∧ p.2 < m) ∧ R p.1 p.2 = true
  apart : P.Pairwise fun p q => p.1 ≠ q.1 ∧ p.2 ≠ q.2
theorem pairsE_ok {n m : Nat} {R : Int → Int → Bool} {P : List (Int × Int)} (h : pairsE n m R P = 0) : PairsOk n m R P := by
  have hz := firstBad_zero h
  have key : ∀ k (hk : k < P.length), pairB n m R (P.take k) P[k] = 0 := fun k hk => by
    have := hz k hk
    unfold pairsB at this
    rwa [List.getElem?_eq_getElem hk] at this
  refine ⟨fun p hp => ?_, List.pairwise_iff_getElem.2 fun i k hi hk hik => ?_⟩
  · obtain ⟨k, hk, rfl⟩ := List.getElem_of_mem hp
    obtain ⟨a, b, _, c⟩ := pairB_zero (key k hk)
    exact ⟨a, b, c⟩
  · obtain ⟨_, _, c, _⟩ := pairB_zero (key k hk)
    exact c _ (List.mem_take_iff_getElem.2 ⟨i, by omega, rfl⟩)
theorem PairsOk.e {n m : Nat} {R : Int → Int → Bool} {P : List (Int × Int)} (h : PairsOk n m R P) : pairsE n m R P = 0 := by
  refine firstBad_pre fun k hk => ?_
  unfold pairsB
  rw [List.getElem?_eq_getElem hk]
  obtain ⟨a, b, c⟩ := h.one _ (List.getElem_mem hk)
  have hp := List.pairwise_iff_getElem.1 h.apart
  have hn : ∀ q ∈ P.take k, q.1 ≠ P[k].1 ∧ q.2 ≠ P[k].2 := fun q hq => by
    obtain ⟨i, hi, rfl⟩ := List.mem_take_iff_getElem.1 hq
    exact hp i k (by omega) hk (by omega)
  unfold pairB
  show (if (wi P[k].1 0 ((n : Int) - 1) && wi P[k].2 0 ((m : Int) - 1)) = false then 6 else _) = (0 : Int)
  rw [if_neg (by simp [wi]; omega), if_neg, if_neg (by simp [c])]
  simp only [Bool.or_eq_true, not_or, List.any_eq_true, decide_eq_true_eq, not_exists, not_and]
  exact ⟨fun q hq => (hn q hq).1, fun q hq => (hn q hq).2⟩
/-- The error of ascending numbers. -/
def numbB (n : Nat) (L : List Int) (k : Nat) : Int :=
  if wi (L[k]?.getD 0) 0 ((n : Int) - 1) = false then 6 else if 0 < k ∧ L[k]?.getD 0 ≤ L[k - 1]?.getD 0 then 9 else 0
def numbE (n : Nat) (L : List Int) : Int := firstBad (numbB n L) L.length
def openB (R : Int → Int → Bool) (F S : List Int) (i k : Int) : Bool := R i k && !F.contains i && !S.contains k
def coverB (n m : Nat) (R : Int → Int → Bool) (F S : List Int) : Bool := (List.range n).all fun i => (List.range m).all fun k => !openB R F S i k
def coverE (n m : Nat) (R : Int → Int → Bool) (F S : List Int) : Int :=
  if numbE n F = 0 then if numbE m S = 0 then if coverB n m R F S then 0 else 18 else numbE m S else numbE n F
/-- A right cover. -/
structure CovOk (n m : Nat) (R : Int → Int → Bool) (F S : List Int) : Prop where
  f : numbE n F = 0
  s : numbE m S = 0
  all : ∀ i k : Int, 0 ≤ i → i < n → 0 ≤ k → k < m → R i k = true → i ∈ F ∨ k ∈ S
theorem coverE_ok {n m : Nat} {R : Int → Int → Bool} {F S : List Int} (h : coverE n m R F S = 0) : CovOk n m R F S := by
  unfold coverE at h
  split at h
  · rename_i h1
    split at h
    · rename_i h2
      split at h
      · rename_i h3
        refine ⟨h1, h2, fun i k hi hin hk hkm hR => ?_⟩
        have := List.all_eq_true.1 (List.all_eq_true.1 h3 i.toNat (List.mem_range.2 (by omega))) k.toNat (List.mem_range.2 (by omega))
        rw [show ((i.toNat : Nat) : Int) = i by omega, show ((k.toNat : Nat) : Int) = k by omega] at this
        unfold openB at this
        rw [hR] at this
        simp only [Bool.true_and, Bool.not_and, Bool.not_not, Bool.or_eq_true, List.contains_iff_mem] at this
        exact this
      · cases h
    · rename_i h2; exact absurd h h2
  · rename_i h1; exact absurd h h1
theorem CovOk.e {n m : Nat} {R : Int → Int → Bool} {F S : List Int} (h : CovOk n m R F S) : coverE n m R F S = 0 := by
  unfold coverE
  rw [if_pos h.f, if_pos h.s, if_pos]
  refine List.all_eq_true.2 fun i hi => List.all_eq_true.2 fun k hk => ?_
  rw [List.mem_range] at hi hk
  unfold openB
  cases hR : R i k
  · rfl
  · have := h.all i k (by omega) (by omega) (by omega) (by omega) hR
    simp only [Bool.true_and, Bool.not_and, Bool.not_not, Bool.or_eq_true, List.contains_iff_mem]
    exact this
/-- NO PAIRS ARE MORE THAN A COVER'S MEMBERS. -/
theorem weak_dual {n m : Nat} {R : Int → Int → Bool} {P : List (Int × Int)} {F S : List Int} (hP : PairsOk n m R P) (hC : CovOk n m R F S) : P.length ≤ F.length + S.length := by
  have hnd : P.Nodup := hP.apart.imp fun h e => by subst e; exact h.1 rfl
  have hp := List.pairwise_iff_getElem.1 hP.apart
  have same : ∀ p ∈ P, ∀ q ∈ P, p.1 = q.1 ∨ p.2 = q.2 → p = q := fun p hpm q hqm h => by
    obtain ⟨i, hi, rfl⟩ := List.getElem_of_mem hpm
    obtain ⟨k, hk, rfl⟩ := List.getElem_of_mem hqm
    rcases (by omega : i < k ∨ i = k ∨ k < i) with hlt | e | hlt
    · have := hp i k hi hk hlt
      rcases h with h | h
      · exact absurd h this.1
      · exact absurd h this.2
    · subst e; rfl
    · have := hp k i hk hi hlt
      rcases h with h | h
      · exact absurd h.symm this.1
      · exact absurd h.symm this.2
  have := nodup_of_pick (fun (p : Int × Int) (b : Bool × Int) => if b.1 then p.1 = b.2 else p.2 = b.2) (A := P) (B := F.map (fun x => (true, x)) ++ S.map (fun x => (false, x))) hnd (fun p hpm => by
    obtain ⟨a, b, c⟩ := hP.one p hpm
    rcases hC.all p.1 p.2 a.1 a.2 b.1 b.2 c with h | h
    · exact ⟨(true, p.1), List.mem_append.2 (.inl (List.mem_map_of_mem h)), by simp⟩
    · exact ⟨(false, p.2), List.mem_append.2 (.inr (List.mem_map_of_mem h)), by simp⟩) (fun p hpm q hqm b _ h1 h2 => by
    obtain ⟨b1, b2⟩ := b
    cases b1
    · simp at h1 h2; exact same p hpm q hqm (.inr (h1.trans h2.symm))
    · simp at h1 h2; exact same p hpm q hqm (.inl (h1.trans h2.symm)))
  simpa using this
end Go.Proofs.YtidgeagpgllkeaaGreat
