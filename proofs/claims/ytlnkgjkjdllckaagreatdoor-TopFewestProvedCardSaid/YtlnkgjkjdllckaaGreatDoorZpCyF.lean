/- TopEveryPointMet: the regions that call. Contract of the law TopEveryPointMet: true. -/
import Derived.Test.YtlnkgjkjdllckaaGreatDoorZpCyE
namespace Go.Proofs.YtlnkgjkjdllckaaGreatDoor
open Go.RowKit

/-- What CheckPlan answers, as numbers. -/
def CPr (nf n : Nat) (P : Nat → List GP) (i a b c d er : Int) : Prop :=
  (∃ k : Nat, k < nf ∧ i = k ∧ er = 14 ∧ GapOf (P k) n ((a, b, c, d), true)) ∨ (er = 0 ∧ ∀ k, k < nf → ∃ r, GapOf (P k) n (r, false))
theorem CPlan.form {nf n : Nat} {P : Nat → List GP} {e : Ending} (h : CPlan nf n P e) : ∃ i a b c d er : Int, e = .returned (.tuple #[.int .i64 i, .agg #[.int .i64 a, .int .i64 b, .int .i64 c, .int .i64 d], .int .i64 er]) ∧ CPr nf n P i a b c d er := by
  rcases h with ⟨k, a, b, c, d, hk, hg, rfl⟩ | ⟨hg, rfl⟩
  · exact ⟨k, a, b, c, d, 14, rfl, .inl ⟨k, hk, rfl, rfl, hg⟩⟩
  · exact ⟨0, 0, 0, 0, 0, 0, rfl, .inr ⟨rfl, hg⟩⟩
/-- Copied set-ups. -/
theorem copiedS {l : List (ByteArray × Su)} {A : Option Addr} {c B : Nat} {w w' : World} {v : Value} (hs : SuOk l A c B w) (own : w'.ownsRow w.heap.size 34 10 v l.length (sucsC l)) :
    ∃ A3 c3, v = .slice A3 l.length c3 ∧ SuOk l A3 c3 w'.heap.size w' := by
  obtain ⟨A3, c3, hv3, hn3, _⟩ := own_shape own
  subst hv3
  have hc3 := own_caps own
  obtain ⟨A3', c3', hv3, hR3⟩ := Row.own own
  simp only [Value.slice.injEq, true_and] at hv3
  obtain ⟨rfl, rfl⟩ := hv3
  exact ⟨A3, c3, rfl, ⟨hs.nm, hs.wf, hn3, hc3.1, hR3, Nat.le_refl _⟩⟩

end Go.Proofs.YtlnkgjkjdllckaaGreatDoor

namespace Go.Proofs.YtlnkgjkjdllckaaGreatDoor
open Go.RowKit

theorem blk4c {w : World} {g t : Nat} {v0 v1 v2 v3 : Value} (h : Blk w g t #[v0, v1, v2, v3]) : w.cell? ⟨g, 0, none⟩ = some v0 ∧ w.cell? ⟨g, 1, none⟩ = some v1 ∧ w.cell? ⟨g, 2, none⟩ = some v2 ∧ w.cell? ⟨g, 3, none⟩ = some v3 := ⟨h.cell 0, h.cell 1, h.cell 2, h.cell 3⟩
theorem coveredB_all {j : Jo} {l : List (ByteArray × Su)} (h : coveredB j l = true) : fewB j = true ∧ l.length ≤ 5 ∧ (jointE j).2 = 0 ∧ setupsE l = 0 := by
  unfold coveredB at h
  simp only [Bool.and_eq_true, decide_eq_true_eq] at h
  exact ⟨h.1.1.1, h.1.1.2, h.1.2, h.2⟩
theorem setupE_name {nm : ByteArray} {s : Su} (h : setupE nm s = 0) : nm.size ≤ 12 := by
  unfold setupE at h
  split at h
  · simp at h
  · rename_i hn
    exact nameB_long (by simpa using hn)
theorem good_all {j : Jo} {l : List (ByteArray × Su)} {ps : List GP} {k : Nat} (h0 : openFaceE j k = 0) (h1 : setupsE l = 0) (hps : ps.map Subtype.val = partsV j k l) : ∀ p ∈ ps, p.1.good := by
  intro p hp
  have : p.1 ∈ ps.map Subtype.val := List.mem_map_of_mem hp
  rw [hps] at this
  unfold partsV at this
  obtain ⟨q, hq, he⟩ := List.mem_map.1 this
  rw [← he]
  exact metV_good (lim_at h0 ((setupsE_zero h1).2 q hq))
theorem met_take {j : Jo} {k : Nat} {l : List (ByteArray × Su)} {n m : Int} (i : Nat) (hi : i < l.length) : ((l.take (i + 1)).any fun p => (metV j.thick (faceAt j k) p.2).has n m) = (((l.take i).any fun p => (metV j.thick (faceAt j k) p.2).has n m) || (metV j.thick (faceAt j k) l[i].2).has n m) := any_take_snoc l i hi _
theorem metAny_map {j : Jo} {k : Nat} {l : List (ByteArray × Su)} {ps : List GP} {n m : Int} (hps : ps.map Subtype.val = partsV j k l) : metAny ps n m = l.any fun p => (metV j.thick (faceAt j k) p.2).has n m := by
  have : metAny ps n m = (ps.map Subtype.val).any fun p => p.has n m := by unfold metAny; rw [List.any_map]; rfl
  rw [this, hps]
  unfold partsV
  rw [List.any_map]
  rfl
theorem isMetR_in {j : Jo} {k : Nat} {p : ByteArray × Su} {n m : Int} (h0 : openFaceE j k = 0) (h1 : setupE p.1 p.2 = 0) (h2 : ptE n m = 0) : isMetR j k p.1 p.2 n m = ((metV j.thick (faceAt j k) p.2).has n m, 0) := by
  refine isMetR_yes ?_ h2
  unfold askE
  rw [if_pos h0]
  exact h1
theorem at_small {a b n d : Int} (ha : -20000 ≤ a ∧ a ≤ 20000) (hb : -20000 ≤ b ∧ b ≤ 20000) (hn : 0 ≤ n) (hnd : n ≤ d) (hd : 0 < d) : -20001 ≤ atV a b n d ∧ atV a b n d ≤ 20001 := by
  unfold atV rndV
  have h1 : a * d + (b - a) * n = a * (d - n) + b * n := by grind
  rw [h1]
  have l1 : -20000 * (d - n) ≤ a * (d - n) := Int.mul_le_mul_of_nonneg_right (by omega) (by omega)
  have l2 : a * (d - n) ≤ 20000 * (d - n) := Int.mul_le_mul_of_nonneg_right (by omega) (by omega)
  have l3 : -20000 * n ≤ b * n := Int.mul_le_mul_of_nonneg_right (by omega) (by omega)
  have l4 : b * n ≤ 20000 * n := Int.mul_le_mul_of_nonneg_right (by omega) (by omega)
  generalize a * (d - n) = X at *
  generalize b * n = Y at *
  constructor
  · have : -20001 * (2 * d) ≤ 2 * (X + Y) + d := by omega
    exact (Int.le_ediv_iff_mul_le (by omega)).2 this
  · have : 2 * (X + Y) + d < (20001 + 1) * (2 * d) := by omega
    have := (Int.ediv_lt_iff_lt_mul (by omega)).2 this
    omega

end Go.Proofs.YtlnkgjkjdllckaaGreatDoor
