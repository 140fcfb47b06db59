/- Plain law of what is scanned and what must be scanned anew. -/
import Derived.Test.YtfgeipapmdhneaaDoorZsCwB
namespace Go.Proofs.YtfgeipapmdhneaaDoor
open Go.RowKit

theorem sort_iff (zs : List Int) (p : Int) : p ∈ sortV zs ↔ p ∈ zs := (List.mergeSort_perm zs _).mem_iff
theorem scan_canon (t : Tk) (zs : List Int) : CtPlain.Canon t.frm (scanV t zs) := (CtPlain.join_spec t.frm t.til t.slip t.reach (sortV zs) (sortV_sorted zs)).1
theorem has_scan (t : Tk) (zs : List Int) (x : Int) : CtPlain.Has (scanV t zs) x ↔ (t.frm ≤ x ∧ x ≤ t.til) ∧ ∃ p ∈ zs, p + t.slip - t.reach ≤ x ∧ x ≤ p - t.slip + t.reach := by
  have h := (CtPlain.join_spec t.frm t.til t.slip t.reach (sortV zs) (sortV_sorted zs)).2 x
  simp only [sort_iff] at h
  exact h
theorem anew_both (t : Tk) (zs : List Int) (hft : t.frm ≤ t.til) : CtPlain.Canon t.frm (anewV t zs) ∧ ∀ x, CtPlain.Has (anewV t zs) x ↔ (t.frm ≤ x ∧ x ≤ t.til) ∧ ¬ CtPlain.Has (scanV t zs) x :=
  CtPlain.anew_spec (scan_canon t zs) (fun x hx => (((has_scan t zs x).1 hx).1).2) (by omega)
/-- With more readings no more must be scanned anew. -/
theorem anew_more (t : Tk) (zs zs' : List Int) (hft : t.frm ≤ t.til) (h : ∀ p, p ∈ zs → p ∈ zs') (x : Int) (hx : CtPlain.Has (anewV t zs') x) : CtPlain.Has (anewV t zs) x := by
  rw [(anew_both t zs' hft).2] at hx
  rw [(anew_both t zs hft).2]
  refine ⟨hx.1, fun hs => hx.2 ?_⟩
  rw [has_scan] at hs ⊢
  obtain ⟨a, p, hp, hb⟩ := hs
  exact ⟨a, p, h p hp, hb⟩
theorem scan_length (t : Tk) (zs : List Int) : (scanV t zs).length ≤ zs.length := by
  have h1 : (scanV t zs).length ≤ 0 + (sortV zs).length := outV_len t (sortV zs) []
  have h2 := sortV_length zs
  omega
theorem left_length : ∀ (l : List (Int × Int)) (a : Int), (CtPlain.left a l).length ≤ l.length
  | [], _ => Nat.le_refl _
  | r :: t, a => by
    have := left_length t (r.2 + 1)
    simp only [CtPlain.left, List.length_append, List.length_cons]
    split <;> simp <;> omega
theorem anew_length (t : Tk) (zs : List Int) : (anewV t zs).length ≤ zs.length + 1 := by
  have h1 := left_length (scanV t zs ++ [(t.til + 1, t.til + 1)]) t.frm
  have h2 := scan_length t zs
  show (CtPlain.left t.frm (scanV t zs ++ [(t.til + 1, t.til + 1)])).length ≤ _
  simp at h1; omega

end Go.Proofs.YtfgeipapmdhneaaDoor
