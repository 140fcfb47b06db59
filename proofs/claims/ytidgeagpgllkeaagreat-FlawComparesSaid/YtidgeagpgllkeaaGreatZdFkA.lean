/- Plain law: the code's groups of marks are the reference's. Plain law: marks told in another order have the same groups. -/
import Derived.Test.YtidgeagpgllkeaaGreatZdFcN
import Derived.Test.YtidgeagpgllkeaaGreatZdFeF
namespace Go.Proofs.YtidgeagpgllkeaaGreat

theorem eq_of_mem {α : Type} {R : α → α → Prop} (asy : ∀ a b, R a b → ¬ R b a) : ∀ {l1 l2 : List α}, l1.Pairwise R → l2.Pairwise R → (∀ x, x ∈ l1 ↔ x ∈ l2) → l1 = l2
  | [], [], _, _, _ => rfl
  | [], b :: l2, _, _, h => by have := (h b).2 (by simp); simp at this
  | a :: l1, [], _, _, h => by have := (h a).1 (by simp); simp at this
  | a :: l1, b :: l2, h1, h2, h => by
    rw [List.pairwise_cons] at h1 h2
    have e : a = b := by
      rcases List.mem_cons.1 ((h a).1 (by simp)) with e | ha
      · exact e
      rcases List.mem_cons.1 ((h b).2 (by simp)) with e | hb
      · exact e.symm
      · exact absurd (h2.1 a ha) (asy _ _ (h1.1 b hb))
    subst e
    rw [eq_of_mem asy h1.2 h2.2 fun x => ⟨fun hx => ?_, fun hx => ?_⟩]
    · rcases List.mem_cons.1 ((h x).1 (List.mem_cons_of_mem _ hx)) with e | hx'
      · subst e; exact absurd (h1.1 x hx) (fun h => asy _ _ h h)
      · exact hx'
    · rcases List.mem_cons.1 ((h x).2 (List.mem_cons_of_mem _ hx)) with e | hx'
      · subst e; exact absurd (h2.1 x hx) (fun h => asy _ _ h h)
      · exact hx'

/-! ### the code's groups -/

/-! ### the reference's groups -/
end Go.Proofs.YtidgeagpgllkeaaGreat

namespace Go.Proofs.YtidgeagpgllkeaaGreat

theorem nodup_of_pick {α β : Type} (R : α → β → Prop) {A : List α} {B : List β} [BEq β] [LawfulBEq β] (hA : A.Nodup) (hp : ∀ a ∈ A, ∃ b ∈ B, R a b) (hi : ∀ a ∈ A, ∀ a' ∈ A, ∀ b ∈ B, R a b → R a' b → a = a') : A.length ≤ B.length := by
  classical
  induction A generalizing B with
  | nil => simp
  | cons a A ih =>
    obtain ⟨b, hb, hr⟩ := hp a (by simp)
    rw [List.nodup_cons] at hA
    have := ih (B := B.erase b) hA.2 (fun a' ha' => by
      obtain ⟨b', hb', hr'⟩ := hp a' (List.mem_cons_of_mem _ ha')
      have : b' ≠ b := fun e => by
        subst e
        have := hi a' (List.mem_cons_of_mem _ ha') a (by simp) b' hb' hr' hr
        subst this
        exact hA.1 ha'
      exact ⟨b', (List.mem_erase_of_ne this).2 hb', hr'⟩) (fun a1 h1 a2 h2 b' hb' => hi a1 (List.mem_cons_of_mem _ h1) a2 (List.mem_cons_of_mem _ h2) b' (List.mem_of_mem_erase hb'))
    rw [List.length_erase_of_mem hb] at this
    have hpos := List.length_pos_of_mem hb
    simp only [List.length_cons]; omega
end Go.Proofs.YtidgeagpgllkeaaGreat
