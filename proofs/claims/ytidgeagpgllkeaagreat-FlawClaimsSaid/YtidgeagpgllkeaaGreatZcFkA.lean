/- Plain law: marks told in another order have the same groups. -/
import Derived.Test.YtidgeagpgllkeaaGreatZcFcN
import Derived.Test.YtidgeagpgllkeaaGreatZcFeF
namespace Go.Proofs.YtidgeagpgllkeaaGreat

theorem nodup_of_pick {α β : Type} (R : α → β → Prop) {A : List α} {B : List β} [BEq β] [LawfulBEq β] (hA : A.Nodup) (hp : ∀ a ∈ A, ∃ b ∈ B, R a b) (hi : ∀ a ∈ A, ∀ a' ∈ A, ∀ b ∈ B, R a b → R a' b → a = a') : A.length ≤ B.length := by
  classical
  induction A generalizing B with
  | nil => simp
  | cons a A ih =>
    obtain ⟨b, hb, hr⟩ := hp a (by simp)
    rw [List.nodup_cons] at hA
    have := ih (B := B.erase b) hA.2 (fun a' ha' => by
      obtain ⟨b', hb', hr'⟩ := hp a' (List.mem_cons_of_mem _ ha')
      have : b' ≠ b := fun e => by
        subst e
        have := hi a' (List.mem_cons_of_mem _ ha') a (by simp) b' hb' hr' hr
        subst this
        exact hA.1 ha'
      exact ⟨b', (List.mem_erase_of_ne this).2 hb', hr'⟩) (fun a1 h1 a2 h2 b' hb' => hi a1 (List.mem_cons_of_mem _ h1) a2 (List.mem_cons_of_mem _ h2) b' (List.mem_of_mem_erase hb'))
    rw [List.length_erase_of_mem hb] at this
    have hpos := List.length_pos_of_mem hb
    simp only [List.length_cons]; omega
end Go.Proofs.YtidgeagpgllkeaaGreat
