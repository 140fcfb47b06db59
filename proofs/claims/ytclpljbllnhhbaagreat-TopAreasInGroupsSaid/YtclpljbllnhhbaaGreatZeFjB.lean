/- Plain law: the areas of an ask are unique; the labels of the reference give them. Plain laws: areas of a greater level lie in areas of a lesser one; the areas have each cell once. -/
import Derived.Test.YtclpljbllnhhbaaGreatZeFaZf
import Derived.Test.YtclpljbllnhhbaaGreatZeFiA
import Derived.Test.YtclpljbllnhhbaaGreatZeFfA
namespace Go.Proofs.YtclpljbllnhhbaaGreat
open Classical

theorem bef_iff (x y : Int × Int) : befB x y = true ↔ x.1 < y.1 ∨ (x.1 = y.1 ∧ x.2 < y.2) := by unfold befB; simp
theorem leC_bef {x y : Int × Int} (h : leC x y = true) (hne : x ≠ y) : befB x y = true := by
  unfold leC at h
  rw [ltC] at h
  rw [bef_iff]
  have : ¬ (x.1 = y.1 ∧ x.2 = y.2) := fun e => hne (Prod.ext e.1 e.2)
  simp only [Bool.not_eq_true', Bool.or_eq_false_iff, Bool.and_eq_false_iff, decide_eq_false_iff_not] at h
  omega
theorem bef_asy (x y : Int × Int) (h : befB x y = true) : ¬ befB y x = true := by rw [bef_iff] at *; omega
theorem bef_tri {x y : Int × Int} (h : x ≠ y) : befB x y = true ∨ befB y x = true := by
  have : ¬ (x.1 = y.1 ∧ x.2 = y.2) := fun e => h (Prod.ext e.1 e.2)
  rw [bef_iff, bef_iff]; omega
theorem pair_bef {L : List (Int × Int)} (hs : L.Pairwise fun x y => leC x y = true) (hn : L.Nodup) : L.Pairwise fun x y => befB x y = true :=
  (hs.and hn).imp (fun h => leC_bef h.1 h.2)
/-- The known cells of a level, ascending. -/
structure Pls (g : Int → Int → Int) (level : Int) (P : List (Int × Int)) : Prop where
  asc : P.Pairwise fun x y => befB x y = true
  mem : ∀ x, x ∈ P ↔ abv g x.1 x.2 level = true
theorem PlacesOk.pls {g : Int → Int → Int} {level : Int} {P : List (Int × Int)} (h : PlacesOk g level P) (hk : ∀ x y, 0 ≤ g x y → W64 x ∧ W64 y) : Pls g level P :=
  ⟨pair_bef h.sorted h.nodup, fun x => ⟨h.abv x, fun ha => by
    have := hk _ _ ((abv_iff _ _ _ _).1 ha).1
    exact h.all x.1 x.2 this.1 this.2 ha⟩⟩
theorem Pls.eq {g : Int → Int → Int} {level : Int} {P Q : List (Int × Int)} (h : Pls g level P) (h' : Pls g level Q) : P = Q :=
  eq_of_mem bef_asy h.asc h'.asc fun x => (h.mem x).trans (h'.mem x).symm
theorem Pls.inj {g : Int → Int → Int} {level : Int} {P : List (Int × Int)} (h : Pls g level P) {i k : Nat} {p : Int × Int} (hi : P[i]? = some p) (hk : P[k]? = some p) : i = k := by
  obtain ⟨h1, e1⟩ := List.getElem?_eq_some_iff.1 hi
  obtain ⟨h2, e2⟩ := List.getElem?_eq_some_iff.1 hk
  rcases (by omega : i < k ∨ i = k ∨ k < i) with hlt | e | hlt
  · have := List.pairwise_iff_getElem.1 h.asc i k h1 h2 hlt
    rw [e1, e2] at this
    exact absurd this (bef_asy _ _ this)
  · exact e
  · have := List.pairwise_iff_getElem.1 h.asc k i h2 h1 hlt
    rw [e1, e2] at this
    exact absurd this (bef_asy _ _ this)

/-! ### the reference's labels -/
/-- The cells with a label, of the first m. -/
def cellsOf (P : List (Int × Int)) (F : List Int) (j m : Nat) : List (Int × Int) := (((F.zip P).take m).filter fun z => decide (z.1 = (j : Int))).map (·.2)
end Go.Proofs.YtclpljbllnhhbaaGreat

namespace Go.Proofs.YtclpljbllnhhbaaGreat

theorem nbB_corners {corners : Bool} {p q : Int × Int} (h : nbB corners p q = true) : nbB true p q = true := by
  unfold nbB keepB at *
  cases corners
  · simp only [Bool.and_eq_true] at *
    refine ⟨h.1, h.2.1, ?_⟩
    simp
  · exact h
theorem abv_low {g : Int → Int → Int} {r c level level' : Int} (hl : level ≤ level') (h : abv g r c level' = true) : abv g r c level = true := by
  rw [abv_iff] at *; omega
theorem Conn.low {g : Int → Int → Int} {level level' : Int} {corners : Bool} {p x : Int × Int} (hl : level ≤ level') (h : Conn g level' corners p x) : Conn g level true p x := by
  induction h with
  | refl => exact .refl
  | step _ hm ha ih => exact .step ih (mem_nb9.2 (nbB_corners (mem_nb9.1 hm))) (abv_low hl ha)
theorem ArS.start_in {g : Int → Int → Int} {level : Int} {corners : Bool} {P : List (Int × Int)} {Bs : List ((Int × Int) × ArA)} (h : ArS g level corners P P.length Bs) : ∀ q ∈ Bs, q.1 ∈ P := fun q hq => by
  have := h.sub
  rw [List.take_length] at this
  exact this.subset (List.mem_map_of_mem hq)
theorem ArS.flat {g : Int → Int → Int} {level : Int} {corners : Bool} {P : List (Int × Int)} {Bs : List ((Int × Int) × ArA)} (hP : Pls g level P) (h : ArS g level corners P P.length Bs) : (Bs.map fun q => q.2.2).flatten.Nodup ∧ ∀ x, x ∈ (Bs.map fun q => q.2.2).flatten ↔ x ∈ P := by
  constructor
  · unfold List.Nodup
    rw [List.pairwise_flatten]
    refine ⟨fun l hl => ?_, ?_⟩
    · obtain ⟨q, hq, rfl⟩ := List.mem_map.1 hl
      exact (h.each q hq).nodup
    · rw [List.pairwise_map]
      refine h.apart.imp_of_mem ?_
      intro a b ha hb hab x hx y hy e
      subst e
      refine hab (((h.each a ha).mem _).2 (((h.each a ha).mem x).1 hx |>.trans ?_))
      exact Conn.symm ((hP.mem _).1 (h.start_in b hb)) (((h.each b hb).mem x).1 hy)
  · intro x
    rw [List.mem_flatten]
    constructor
    · rintro ⟨l, hl, hx⟩
      obtain ⟨q, hq, rfl⟩ := List.mem_map.1 hl
      exact (hP.mem x).2 (Conn.abv ((hP.mem _).1 (h.start_in q hq)) (((h.each q hq).mem x).1 hx))
    · intro hx
      obtain ⟨q, hq, hm⟩ := h.cover x (by rw [List.take_length]; exact hx)
      exact ⟨_, List.mem_map_of_mem hq, hm⟩
theorem Pls.nodup {g : Int → Int → Int} {level : Int} {P : List (Int × Int)} (h : Pls g level P) : P.Nodup :=
  h.asc.imp (fun hb e => by subst e; exact bef_asy _ _ hb hb)
theorem ArS.sum {g : Int → Int → Int} {level : Int} {corners : Bool} {P : List (Int × Int)} {Bs : List ((Int × Int) × ArA)} (hP : Pls g level P) (h : ArS g level corners P P.length Bs) : (Bs.map fun q => q.2.2.length).sum = P.length := by
  obtain ⟨h1, h2⟩ := h.flat hP
  have a := nodup_len _ P h1 fun x hx => (h2 x).1 hx
  have b := nodup_len P _ hP.nodup fun x hx => (h2 x).2 hx
  rw [List.length_flatten, List.map_map] at a b
  exact Nat.le_antisymm a b
theorem AreaOk.pos {g : Int → Int → Int} {level : Int} {corners : Bool} {p : Int × Int} {cs : List (Int × Int)} (h : AreaOk g level corners p cs) : 0 < cs.length := List.length_pos_of_mem ((h.mem p).2 .refl)
end Go.Proofs.YtclpljbllnhhbaaGreat
