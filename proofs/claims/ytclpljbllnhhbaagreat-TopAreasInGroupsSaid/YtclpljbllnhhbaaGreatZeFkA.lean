/- Plain law: marks told in another order have the same groups. -/
import Derived.Test.YtclpljbllnhhbaaGreatZeFfA
namespace Go.Proofs.YtclpljbllnhhbaaGreat

theorem CanonG.bd {n : Nat} {D : List (List Int)} (h : CanonG n D) {g : List Int} (hg : g ∈ D) : ∀ i ∈ g, 0 ≤ i ∧ i < n := fun _ hi =>
  mem_numsTo.1 (h.perm.mem_iff.1 (List.mem_flatten.2 ⟨g, hg, hi⟩))
theorem nodup_of_pick {α β : Type} (R : α → β → Prop) {A : List α} {B : List β} [BEq β] [LawfulBEq β] (hA : A.Nodup) (hp : ∀ a ∈ A, ∃ b ∈ B, R a b) (hi : ∀ a ∈ A, ∀ a' ∈ A, ∀ b ∈ B, R a b → R a' b → a = a') : A.length ≤ B.length := by
  classical
  induction A generalizing B with
  | nil => simp
  | cons a A ih =>
    obtain ⟨b, hb, hr⟩ := hp a (by simp)
    rw [List.nodup_cons] at hA
    have := ih (B := B.erase b) hA.2 (fun a' ha' => by
      obtain ⟨b', hb', hr'⟩ := hp a' (List.mem_cons_of_mem _ ha')
      have : b' ≠ b := fun e => by
        subst e
        have := hi a' (List.mem_cons_of_mem _ ha') a (by simp) b' hb' hr' hr
        subst this
        exact hA.1 ha'
      exact ⟨b', (List.mem_erase_of_ne this).2 hb', hr'⟩) (fun a1 h1 a2 h2 b' hb' => hi a1 (List.mem_cons_of_mem _ h1) a2 (List.mem_cons_of_mem _ h2) b' (List.mem_of_mem_erase hb'))
    rw [List.length_erase_of_mem hb] at this
    have hpos := List.length_pos_of_mem hb
    simp only [List.length_cons]; omega
theorem CanonG.ndG {n : Nat} {D : List (List Int)} (h : CanonG n D) : D.Nodup := by
  have := h.ord
  rw [List.pairwise_map] at this
  exact this.imp (fun h e => by subst e; omega)
theorem CanonG.first {n : Nat} {D : List (List Int)} (h : CanonG n D) {g : List Int} (hg : g ∈ D) : ∃ i, i ∈ g := by
  have := h.pos g hg
  cases g with
  | nil => exact absurd rfl this
  | cons i t => exact ⟨i, by simp⟩
theorem CanonG.most {n : Nat} {D : List (List Int)} (h : CanonG n D) : D.length ≤ n := by
  have := nodup_of_pick (fun (g : List Int) (i : Int) => i ∈ g) (A := D) (B := numsTo n) h.ndG (fun g hg => by
    obtain ⟨i, hi⟩ := h.first hg
    exact ⟨i, mem_numsTo.2 (h.bd hg i hi), hi⟩) (fun g hg g' hg' i _ h1 h2 => h.one hg hg' h1 h2)
  simpa [numsTo] using this
end Go.Proofs.YtclpljbllnhhbaaGreat
