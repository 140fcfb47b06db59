/- Plain law: the areas of the first example's scan. -/
import Derived.Test.YtidgeagpgllkeaaGreatFaZe
namespace Go.Proofs.YtidgeagpgllkeaaGreat
open Go.RowKit

/-- The first example's scan. -/
def sixS (A : Option Addr) (cap : Nat) : Sc := ⟨0, 0, 2, 3, [5, 0, 7, 0, 6, 0], A, cap⟩
def sixL : List (Int × Int) := [(0, 0), (0, 2), (1, 1)]
section
variable {A : Option Addr} {cap : Nat}
theorem six_bd {x y : Int} (h : 0 ≤ atV [sixS A cap] x y) : (0 ≤ x ∧ x ≤ 1) ∧ 0 ≤ y ∧ y ≤ 2 := by
  cases hb : inB (sixS A cap) x y
  · exfalso
    have : atV [sixS A cap] x y = -1 := by
      show atS (-1) _ x y = -1
      unfold atS; rw [hb]; rfl
    omega
  · simp [inB, wi, sixS] at hb; omega
theorem six_mem {x y : Int} (h : abv (atV [sixS A cap]) x y 5 = true) : (x, y) ∈ sixL := by
  obtain ⟨hr, hc⟩ := six_bd ((abv_iff _ _ _ _).1 h).1
  have hr : x = 0 ∨ x = 1 := by omega
  have hc : y = 0 ∨ y = 1 ∨ y = 2 := by omega
  rcases hr with rfl | rfl <;> rcases hc with rfl | rfl | rfl
  · decide
  · have e : abv (atV [sixS A cap]) 0 1 5 = false := by rfl
    rw [e] at h; cases h
  · decide
  · have e : abv (atV [sixS A cap]) 1 0 5 = false := by rfl
    rw [e] at h; cases h
  · decide
  · have e : abv (atV [sixS A cap]) 1 2 5 = false := by rfl
    rw [e] at h; cases h
theorem six_abv : ∀ x ∈ sixL, abv (atV [sixS A cap]) x.1 x.2 5 = true := by
  intro x hx
  simp only [sixL, List.mem_cons, List.not_mem_nil, or_false] at hx
  rcases hx with rfl | rfl | rfl <;> rfl
theorem six_to : ∀ x ∈ sixL, Conn (atV [sixS A cap]) 5 true x (1, 1) := by
  intro x hx
  simp only [sixL, List.mem_cons, List.not_mem_nil, or_false] at hx
  rcases hx with rfl | rfl | rfl
  · exact .step .refl (by decide) (six_abv _ (by decide))
  · exact .step .refl (by decide) (six_abv _ (by decide))
  · exact .refl
theorem six_conn {x y : Int × Int} (hx : x ∈ sixL) (hy : y ∈ sixL) : Conn (atV [sixS A cap]) 5 true x y := by
  have h := six_to (A := A) (cap := cap) x hx
  simp only [sixL, List.mem_cons, List.not_mem_nil, or_false] at hy
  rcases hy with rfl | rfl | rfl
  · exact .step h (by decide) (six_abv _ (by decide))
  · exact .step h (by decide) (six_abv _ (by decide))
  · exact h
end

theorem peak_foldl (g : Int → Int → Int) : ∀ (l : List (Int × Int)) (p : Int × Int),
    (l.foldl (fun p x => if g p.1 p.2 < g x.1 x.2 then x else p) p ∈ p :: l) ∧ g p.1 p.2 ≤ g (l.foldl (fun p x => if g p.1 p.2 < g x.1 x.2 then x else p) p).1 (l.foldl (fun p x => if g p.1 p.2 < g x.1 x.2 then x else p) p).2 ∧
      ∀ x ∈ l, g x.1 x.2 ≤ g (l.foldl (fun p x => if g p.1 p.2 < g x.1 x.2 then x else p) p).1 (l.foldl (fun p x => if g p.1 p.2 < g x.1 x.2 then x else p) p).2
  | [], p => by simp
  | y :: l, p => by
    obtain ⟨h1, h2, h3⟩ := peak_foldl g l (if g p.1 p.2 < g y.1 y.2 then y else p)
    simp only [List.foldl_cons]
    generalize l.foldl (fun p x => if g p.1 p.2 < g x.1 x.2 then x else p) (if g p.1 p.2 < g y.1 y.2 then y else p) = r at h1 h2 h3 ⊢
    split at h1 <;> rename_i hc
    · rw [if_pos hc] at h2
      refine ⟨?_, by omega, ?_⟩
      · rcases List.mem_cons.1 h1 with e | e
        · rw [e]; simp
        · exact List.mem_cons_of_mem _ (List.mem_cons_of_mem _ e)
      · intro x hx
        rcases List.mem_cons.1 hx with e | e
        · rw [e]; exact h2
        · exact h3 x e
    · rw [if_neg hc] at h2
      refine ⟨?_, by omega, ?_⟩
      · rcases List.mem_cons.1 h1 with e | e
        · rw [e]; simp
        · exact List.mem_cons_of_mem _ (List.mem_cons_of_mem _ e)
      · intro x hx
        rcases List.mem_cons.1 hx with e | e
        · rw [e]; omega
        · exact h3 x e
/-- The peak of cells: one of them, and none is greater. -/
theorem peak_spec (g : Int → Int → Int) {cs : List (Int × Int)} (h : cs ≠ []) : peakV g cs ∈ cs ∧ ∀ x ∈ cs, g x.1 x.2 ≤ g (peakV g cs).1 (peakV g cs).2 := by
  obtain ⟨h1, h2, h3⟩ := peak_foldl g cs (cs.headD (0, 0))
  have hm : cs.headD (0, 0) ∈ cs := by
    cases cs with
    | nil => exact absurd rfl h
    | cons a l => simp
  refine ⟨?_, h3⟩
  unfold peakV
  rcases List.mem_cons.1 h1 with e | e
  · rw [e]; exact hm
  · exact e

/-- The areas of the first example: one; it has three cells, and its peak is the second one. -/
theorem six_areas {A : Option Addr} {cap : Nat} {P : List (Int × Int)} {Bs : List ((Int × Int) × ArA)} (hP : PlacesOk (atV [sixS A cap]) 5 P) (hS : ArS (atV [sixS A cap]) 5 true P P.length Bs) :
    ∃ q, Bs = [q] ∧ q.2.2.length = 3 ∧ peakV (atV [sixS A cap]) q.2.2 = (0, 2) := by
  have hin : ∀ x ∈ P, x ∈ sixL := fun x hx => six_mem (hP.abv x hx)
  have hall : ∀ x ∈ sixL, x ∈ P := by
    intro x hx
    refine hP.all x.1 x.2 ?_ ?_ (six_abv x hx)
    all_goals
      simp only [sixL, List.mem_cons, List.not_mem_nil, or_false] at hx
      rcases hx with rfl | rfl | rfl <;> exact ⟨by decide, by decide⟩
  have hsub : ∀ q ∈ Bs, q.1 ∈ P := fun q hq => by
    have := hS.sub.subset (List.mem_map_of_mem (f := (·.1)) hq)
    rwa [List.take_length] at this
  match Bs, hS with
  | [], hS =>
    obtain ⟨q, hq, _⟩ := hS.cover (0, 0) (by rw [List.take_length]; exact hall _ (by decide))
    cases hq
  | a :: b :: Bs, hS =>
    exfalso
    have h1 := (List.pairwise_cons.1 hS.apart).1 b (by simp)
    exact h1 (((hS.each a (by simp)).mem _).2 (six_conn (hin _ (hsub a (by simp))) (hin _ (hsub b (by simp)))))
  | [q], hS =>
    have hA := hS.each q (by simp)
    have hq := hin _ (hsub q (by simp))
    have hiff : ∀ x, x ∈ q.2.2 ↔ x ∈ sixL := fun x => by
      rw [hA.mem]
      constructor
      · intro h
        cases h with
        | refl => exact hq
        | step _ _ ha => exact six_mem ha
      · exact fun h => six_conn hq h
    have hperm : q.2.2.Perm sixL := (List.perm_ext_iff_of_nodup hA.nodup (by decide)).2 hiff
    obtain ⟨p1, p2⟩ := peak_spec (atV [sixS A cap]) (cs := q.2.2) (fun e => by have := (hiff (0, 0)).2 (by decide); rw [e] at this; cases this)
    refine ⟨q, rfl, by rw [hperm.length_eq]; rfl, ?_⟩
    have h2 := p2 (0, 2) ((hiff _).2 (by decide))
    have h1 := (hiff _).1 p1
    generalize peakV (atV [sixS A cap]) q.2.2 = p at h1 h2
    have e7 : atV [sixS A cap] 0 2 = 7 := by rfl
    simp only [sixL, List.mem_cons, List.not_mem_nil, or_false] at h1
    rcases h1 with rfl | rfl | rfl
    · have e5 : atV [sixS A cap] 0 0 = 5 := by rfl
      dsimp only at h2; omega
    · rfl
    · have e6 : atV [sixS A cap] 1 1 = 6 := by rfl
      dsimp only at h2; omega
end Go.Proofs.YtidgeagpgllkeaaGreat
