/- Plain law: the amplitudes of scans told in another order, twice, or cut. -/
import Derived.Test.YtclpljbllnhhbaaGreatZeFgC
namespace Go.Proofs.YtclpljbllnhhbaaGreat

theorem atV_le (l : List Sc) (r c m : Int) : atV l r c ≤ m ↔ -1 ≤ m ∧ ∀ s ∈ l, inB s r c = true → datV s r c ≤ m := by
  have key : ∀ (l : List Sc) (b : Int), l.foldl (fun b s => atS b s r c) b ≤ m ↔ b ≤ m ∧ ∀ s ∈ l, inB s r c = true → datV s r c ≤ m := by
    intro l
    induction l with
    | nil => intro b; simp
    | cons s l ih =>
      intro b
      rw [List.foldl_cons, ih]
      unfold atS
      by_cases hi : inB s r c = true
      · rw [if_pos hi]
        constructor
        · rintro ⟨h1, h2⟩
          refine ⟨by omega, fun t ht hti => ?_⟩
          rcases List.mem_cons.1 ht with rfl | ht
          · omega
          · exact h2 t ht hti
        · rintro ⟨h1, h2⟩
          have := h2 s (by simp) hi
          exact ⟨by omega, fun t ht hti => h2 t (List.mem_cons_of_mem _ ht) hti⟩
      · rw [if_neg hi]
        constructor
        · rintro ⟨h1, h2⟩
          refine ⟨h1, fun t ht hti => ?_⟩
          rcases List.mem_cons.1 ht with rfl | ht
          · exact absurd hti hi
          · exact h2 t ht hti
        · rintro ⟨h1, h2⟩
          exact ⟨h1, fun t ht hti => h2 t (List.mem_cons_of_mem _ ht) hti⟩
  exact key l (-1)
theorem scanE_good {s : Sc} (h : ScGood s) : scanE s = 0 := by
  unfold scanE
  have e1 : wi s.row (-100000) 100000 = true := by have := h.row; simp [wi]; omega
  have e2 : wi s.col (-100000) 100000 = true := by have := h.col; simp [wi]; omega
  have e3 : wi s.rows 1 24 = true := by have := h.rows; simp [wi]; omega
  have e4 : wi s.cols 1 24 = true := by have := h.cols; simp [wi]; omega
  rw [e1, e2, e3, e4, if_neg (by simp), if_neg (by simpa using h.len), if_pos]
  rw [List.all_eq_true]
  intro x hx
  have := h.data x hx
  simp [wi]; omega
theorem scansE_good {l : List Sc} (hl : l.length ≤ 6) (h : ∀ s ∈ l, ScGood s) : scansE l = (0, 0) := scansE_end hl fun _ hj => scanE_good (h _ (List.getElem_mem hj))
end Go.Proofs.YtclpljbllnhhbaaGreat
