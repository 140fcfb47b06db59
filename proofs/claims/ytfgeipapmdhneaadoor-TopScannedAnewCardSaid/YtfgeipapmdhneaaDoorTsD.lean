/- Plain law: what must be scanned anew with more readings lies within what must be with fewer ones. -/
import Derived.Test.YtfgeipapmdhneaaDoorZsCvV
import Derived.Test.YtfgeipapmdhneaaDoorZsCwF
namespace Go.Proofs.YtfgeipapmdhneaaDoor
open Go.RowKit Go.Lib

/-! ### more readings leave less -/
theorem canon_in : ∀ (l : List (Int × Int)) (b lo hi : Int), CtPlain.Canon b l → lo ≤ hi → (∀ x, lo ≤ x → x ≤ hi → CtPlain.Has l x) → ∃ q ∈ l, q.1 ≤ lo ∧ hi ≤ q.2
  | [], _, lo, hi, _, h, hx => (CtPlain.has_nil lo (hx lo (Int.le_refl _) h)).elim
  | r :: t, b, lo, hi, ⟨h1, h2, h3⟩, h, hx => by
    have ht := CtPlain.canon_le t _ h3
    by_cases hin : r.1 ≤ lo ∧ lo ≤ r.2
    · refine ⟨r, by simp, hin.1, ?_⟩
      refine Classical.byContradiction fun hn => ?_
      have h4 := hx (r.2 + 1) (by omega) (by omega)
      rcases (CtPlain.has_cons r t _).1 h4 with h5 | h5
      · omega
      · have := ht _ h5; omega
    · have key : ∀ x, lo ≤ x → x ≤ hi → CtPlain.Has t x := by
        have h0 : CtPlain.Has t lo := by
          rcases (CtPlain.has_cons r t _).1 (hx lo (Int.le_refl _) h) with h5 | h5
          · exact absurd h5 hin
          · exact h5
        have hlo := ht _ h0
        intro x h6 h7
        rcases (CtPlain.has_cons r t _).1 (hx x h6 h7) with h5 | h5
        · omega
        · exact h5
      obtain ⟨q, hq, h8⟩ := canon_in t _ lo hi h3 h key
      exact ⟨q, by simp [hq], h8⟩
theorem anew_within (t : Tk) (zs ys : List Int) (hft : t.frm ≤ t.til) (h : ∀ p, p ∈ ys → p ∈ zs) : ∀ r ∈ anewV t zs, ∃ q ∈ anewV t ys, q.1 ≤ r.1 ∧ r.2 ≤ q.2 := by
  intro r hr
  have h1 := (anew_both t zs hft).1
  have h2 := CtPlain.canon_mem _ _ h1 r hr
  exact canon_in _ _ r.1 r.2 (anew_both t ys hft).1 h2.2 (fun x hx hx2 => anew_more t ys zs hft h x ⟨r, hr, hx, hx2⟩)
end Go.Proofs.YtfgeipapmdhneaaDoor
