/- Plain law: the code's groups of marks are the reference's. -/
import Derived.Deep.DeepCutAuto
import Derived.Test.YtidgeagpgllkeaaGreatZaFcN
import Derived.Test.YtidgeagpgllkeaaGreatZaFcG
namespace Go.Proofs.YtidgeagpgllkeaaGreat

def numsTo (n : Nat) : List Int := (List.range n).map fun (k : Nat) => (k : Int)
theorem eq_of_mem {α : Type} {R : α → α → Prop} (asy : ∀ a b, R a b → ¬ R b a) : ∀ {l1 l2 : List α}, l1.Pairwise R → l2.Pairwise R → (∀ x, x ∈ l1 ↔ x ∈ l2) → l1 = l2
  | [], [], _, _, _ => rfl
  | [], b :: l2, _, _, h => by have := (h b).2 (by simp); simp at this
  | a :: l1, [], _, _, h => by have := (h a).1 (by simp); simp at this
  | a :: l1, b :: l2, h1, h2, h => by
    rw [List.pairwise_cons] at h1 h2
    have e : a = b := by
      rcases List.mem_cons.1 ((h a).1 (by simp)) with e | ha
      · exact e
      rcases List.mem_cons.1 ((h b).2 (by simp)) with e | hb
      · exact e.symm
      · exact absurd (h2.1 a ha) (asy _ _ (h1.1 b hb))
    subst e
    rw [eq_of_mem asy h1.2 h2.2 fun x => ⟨fun hx => ?_, fun hx => ?_⟩]
    · rcases List.mem_cons.1 ((h x).1 (List.mem_cons_of_mem _ hx)) with e | hx'
      · subst e; exact absurd (h1.1 x hx) (fun h => asy _ _ h h)
      · exact hx'
    · rcases List.mem_cons.1 ((h x).2 (List.mem_cons_of_mem _ hx)) with e | hx'
      · subst e; exact absurd (h2.1 x hx) (fun h => asy _ _ h h)
      · exact hx'

/-! ### the code's groups -/

/-! ### the reference's groups -/
end Go.Proofs.YtidgeagpgllkeaaGreat
