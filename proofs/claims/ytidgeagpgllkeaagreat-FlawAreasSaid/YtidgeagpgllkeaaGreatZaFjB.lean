/- Plain law: the areas of an ask are unique; the labels of the reference give them. Plain laws: areas of a greater level lie in areas of a lesser one; the areas have each cell once. -/
import Derived.Test.YtidgeagpgllkeaaGreatZaFaZf
import Derived.Test.YtidgeagpgllkeaaGreatZaFiA
import Derived.Test.YtidgeagpgllkeaaGreatZaFfA
namespace Go.Proofs.YtidgeagpgllkeaaGreat
open Classical

theorem bef_iff (x y : Int × Int) : befB x y = true ↔ x.1 < y.1 ∨ (x.1 = y.1 ∧ x.2 < y.2) := by unfold befB; simp
theorem leC_bef {x y : Int × Int} (h : leC x y = true) (hne : x ≠ y) : befB x y = true := by
  unfold leC at h
  rw [ltC] at h
  rw [bef_iff]
  have : ¬ (x.1 = y.1 ∧ x.2 = y.2) := fun e => hne (Prod.ext e.1 e.2)
  simp only [Bool.not_eq_true', Bool.or_eq_false_iff, Bool.and_eq_false_iff, decide_eq_false_iff_not] at h
  omega
theorem bef_asy (x y : Int × Int) (h : befB x y = true) : ¬ befB y x = true := by rw [bef_iff] at *; omega
theorem bef_tri {x y : Int × Int} (h : x ≠ y) : befB x y = true ∨ befB y x = true := by
  have : ¬ (x.1 = y.1 ∧ x.2 = y.2) := fun e => h (Prod.ext e.1 e.2)
  rw [bef_iff, bef_iff]; omega
theorem pair_bef {L : List (Int × Int)} (hs : L.Pairwise fun x y => leC x y = true) (hn : L.Nodup) : L.Pairwise fun x y => befB x y = true :=
  (hs.and hn).imp (fun h => leC_bef h.1 h.2)
/-- The known cells of a level, ascending. -/
structure Pls (g : Int → Int → Int) (level : Int) (P : List (Int × Int)) : Prop where
  asc : P.Pairwise fun x y => befB x y = true
  mem : ∀ x, x ∈ P ↔ abv g x.1 x.2 level = true
theorem PlacesOk.pls {g : Int → Int → Int} {level : Int} {P : List (Int × Int)} (h : PlacesOk g level P) (hk : ∀ x y, 0 ≤ g x y → W64 x ∧ W64 y) : Pls g level P :=
  ⟨pair_bef h.sorted h.nodup, fun x => ⟨h.abv x, fun ha => by
    have := hk _ _ ((abv_iff _ _ _ _).1 ha).1
    exact h.all x.1 x.2 this.1 this.2 ha⟩⟩
theorem Pls.eq {g : Int → Int → Int} {level : Int} {P Q : List (Int × Int)} (h : Pls g level P) (h' : Pls g level Q) : P = Q :=
  eq_of_mem bef_asy h.asc h'.asc fun x => (h.mem x).trans (h'.mem x).symm
theorem Pls.inj {g : Int → Int → Int} {level : Int} {P : List (Int × Int)} (h : Pls g level P) {i k : Nat} {p : Int × Int} (hi : P[i]? = some p) (hk : P[k]? = some p) : i = k := by
  obtain ⟨h1, e1⟩ := List.getElem?_eq_some_iff.1 hi
  obtain ⟨h2, e2⟩ := List.getElem?_eq_some_iff.1 hk
  rcases (by omega : i < k ∨ i = k ∨ k < i) with hlt | e | hlt
  · have := List.pairwise_iff_getElem.1 h.asc i k h1 h2 hlt
    rw [e1, e2] at this
    exact absurd this (bef_asy _ _ this)
  · exact e
  · have := List.pairwise_iff_getElem.1 h.asc k i h2 h1 hlt
    rw [e1, e2] at this
    exact absurd this (bef_asy _ _ this)
theorem Pls.lt_of {g : Int → Int → Int} {level : Int} {P : List (Int × Int)} (h : Pls g level P) {i k : Nat} {p q : Int × Int} (hi : P[i]? = some p) (hk : P[k]? = some q) (hb : befB p q = true) : i < k := by
  obtain ⟨h1, e1⟩ := List.getElem?_eq_some_iff.1 hi
  obtain ⟨h2, e2⟩ := List.getElem?_eq_some_iff.1 hk
  rcases (by omega : i < k ∨ i = k ∨ k < i) with hlt | e | hlt
  · exact hlt
  · subst e
    rw [hi] at hk
    obtain rfl : p = q := by simpa using hk
    exact absurd hb (bef_asy _ _ hb)
  · have := List.pairwise_iff_getElem.1 h.asc k i h2 h1 hlt
    rw [e1, e2] at this
    exact absurd this (bef_asy _ _ hb)
/-- A place ahead of which no place hangs together with it. -/
noncomputable def startB (g : Int → Int → Int) (level : Int) (corners : Bool) (P : List (Int × Int)) (p : Int × Int) : Bool := decide (∀ q ∈ P, Conn g level corners q p → ¬ befB q p = true)
noncomputable def compC (g : Int → Int → Int) (level : Int) (corners : Bool) (P : List (Int × Int)) (p : Int × Int) : List (Int × Int) := P.filter fun x => decide (Conn g level corners p x)
/-- The cells of the areas, in order. -/
noncomputable def areasV (g : Int → Int → Int) (level : Int) (corners : Bool) (P : List (Int × Int)) : List (List (Int × Int)) := (P.filter (startB g level corners P)).map (compC g level corners P)
theorem comp_eq {g : Int → Int → Int} {level : Int} {corners : Bool} {P cs : List (Int × Int)} {p : Int × Int} (hP : Pls g level P) (hp : p ∈ P) (hs : cs.Pairwise fun x y => befB x y = true) (hm : ∀ x, x ∈ cs ↔ Conn g level corners p x) : cs = compC g level corners P p :=
  eq_of_mem bef_asy hs (hP.asc.filter _) fun x => by
    unfold compC
    rw [hm, List.mem_filter, decide_eq_true_iff, hP.mem]
    exact ⟨fun h => ⟨Conn.abv ((hP.mem p).1 hp) h, h⟩, fun h => h.2⟩
theorem ArS.areas {g : Int → Int → Int} {level : Int} {corners : Bool} {P : List (Int × Int)} {Bs : List ((Int × Int) × ArA)} (hP : Pls g level P) (hS : ArS g level corners P P.length Bs) : Bs.map (fun q => q.2.2) = areasV g level corners P := by
  have hsub : (Bs.map (·.1)).Sublist P := by have := hS.sub; rwa [List.take_length] at this
  have hin : ∀ q ∈ Bs, q.1 ∈ P := fun q hq => hsub.subset (List.mem_map_of_mem hq)
  have hlow : ∀ q ∈ Bs, ∀ x ∈ q.2.2, x ∈ P → ¬ befB x q.1 = true := fun q hq x hx hxP hb => by
    obtain ⟨j, hj, e, hl⟩ := hS.low q hq
    obtain ⟨k, hk, rfl⟩ := List.getElem_of_mem hxP
    have hkj : k < j := hP.lt_of (List.getElem?_eq_getElem hk) (List.getElem?_eq_getElem hj) (by rw [e]; exact hb)
    exact hl _ hx (List.mem_take_iff_getElem.2 ⟨k, by omega, rfl⟩)
  have e1 : Bs.map (·.1) = P.filter (startB g level corners P) := eq_of_mem bef_asy (hP.asc.sublist hsub) (hP.asc.filter _) fun x => by
    rw [List.mem_filter, List.mem_map]
    constructor
    · rintro ⟨q, hq, rfl⟩
      refine ⟨hin q hq, decide_eq_true fun r hr hc => ?_⟩
      exact hlow q hq r (((hS.each q hq).mem r).2 (Conn.symm ((hP.mem r).1 hr) hc)) hr
    · rintro ⟨hx, hs⟩
      obtain ⟨q, hq, hxq⟩ := hS.cover x (by rw [List.take_length]; exact hx)
      refine ⟨q, hq, ?_⟩
      by_cases e : q.1 = x
      · exact e
      · rcases bef_tri e with h | h
        · exact absurd h (of_decide_eq_true hs q.1 (hin q hq) (((hS.each q hq).mem x).1 hxq))
        · exact absurd h (hlow q hq x hxq hx)
  unfold areasV
  rw [← e1, List.map_map]
  exact List.map_congr_left fun q hq => comp_eq hP (hin q hq) (pair_bef (hS.each q hq).sorted (hS.each q hq).nodup) (hS.each q hq).mem

/-! ### the reference's labels -/
structure Lab (g : Int → Int → Int) (level : Int) (corners : Bool) (P : List (Int × Int)) (F : List Int) : Prop where
  len : F.length = P.length
  low : ∀ (i : Nat) f, F[i]? = some f → 0 ≤ f ∧ f ≤ i
  conn : ∀ (i : Nat) f p q, F[i]? = some f → P[i]? = some p → P[f.toNat]? = some q → Conn g level corners q p
theorem Lab.start (g : Int → Int → Int) (level : Int) (corners : Bool) (P : List (Int × Int)) : Lab g level corners P (numsTo P.length) := by
  have e : ∀ (i : Nat) f, (numsTo P.length)[i]? = some f → f = (i : Int) := fun i f h => by
    unfold numsTo at h
    rw [List.getElem?_map] at h
    cases hr : (List.range P.length)[i]? with
    | none => rw [hr] at h; cases h
    | some k =>
      rw [hr] at h
      obtain ⟨h1, h2⟩ := List.getElem?_eq_some_iff.1 hr
      rw [List.getElem_range] at h2
      subst h2
      simpa using h.symm
  refine ⟨by simp [numsTo], fun i f h => by have := e i f h; omega, fun i f p q h hp hq => ?_⟩
  obtain rfl := e i f h
  rw [Int.toNat_natCast, hp] at hq
  obtain rfl : p = q := by simpa using hq
  exact .refl
def sumN (l : List Int) : Nat := (l.map Int.toNat).sum
theorem sumN_set : ∀ (l : List Int) (i : Nat) (x y : Int), l[i]? = some y → sumN (l.set i x) + y.toNat = sumN l + x.toNat
  | [], i, x, y, h => by simp at h
  | a :: l, 0, x, y, h => by
    obtain rfl : a = y := by simpa using h
    simp only [sumN, List.set_cons_zero, List.map_cons, List.sum_cons]; omega
  | a :: l, i + 1, x, y, h => by
    have ih := sumN_set l i x y (by simpa using h)
    simp only [sumN, List.set_cons_succ, List.map_cons, List.sum_cons] at ih ⊢; omega
theorem Lab.step {g : Int → Int → Int} {level : Int} {corners : Bool} {P : List (Int × Int)} {F : List Int} (hP : Pls g level P) (h : Lab g level corners P F) {i k : Nat} {fi fk : Int} {p q : Int × Int} (hi : F[i]? = some fi) (hk : F[k]? = some fk) (hki : k < i) (hp : P[i]? = some p) (hq : P[k]? = some q) (hn : nbB corners p q = true) : Lab g level corners P ((F.set i (min fi fk)).set k (min fi fk)) := by
  have li := h.low i fi hi
  have lk := h.low k fk hk
  have ap : abv g p.1 p.2 level = true := (hP.mem p).1 (List.mem_of_getElem? hp)
  have aq : abv g q.1 q.2 level = true := (hP.mem q).1 (List.mem_of_getElem? hq)
  have hkl := (List.getElem?_eq_some_iff.1 hk).1
  have hil := (List.getElem?_eq_some_iff.1 hi).1
  refine ⟨by rw [List.length_set, List.length_set]; exact h.len, fun j f hj => ?_, fun j f x y hj hx hy => ?_⟩
  · by_cases e : k = j
    · subst e
      rw [List.getElem?_set_self (by simpa using hkl)] at hj
      obtain rfl : min fi fk = f := by simpa using hj
      omega
    · rw [List.getElem?_set_ne e] at hj
      by_cases e' : i = j
      · subst e'
        rw [List.getElem?_set_self hil] at hj
        obtain rfl : min fi fk = f := by simpa using hj
        omega
      · rw [List.getElem?_set_ne e'] at hj
        exact h.low j f hj
  · have both : ∀ y, P[(min fi fk).toNat]? = some y → Conn g level corners y p ∧ Conn g level corners y q := fun y hy => by
      rcases Int.le_total fi fk with hle | hle
      · rw [Int.min_eq_left hle] at hy
        have := h.conn i fi p y hi hp hy
        exact ⟨this, .step this (mem_nb9.2 hn) aq⟩
      · rw [Int.min_eq_right hle] at hy
        have := h.conn k fk q y hk hq hy
        exact ⟨.step this (mem_nb9.2 (nbB_symm hn)) ap, this⟩
    by_cases e : k = j
    · subst e
      rw [List.getElem?_set_self (by simpa using hkl)] at hj
      obtain rfl : min fi fk = f := by simpa using hj
      rw [hq] at hx
      obtain rfl : q = x := by simpa using hx
      exact (both y hy).2
    · rw [List.getElem?_set_ne e] at hj
      by_cases e' : i = j
      · subst e'
        rw [List.getElem?_set_self hil] at hj
        obtain rfl : min fi fk = f := by simpa using hj
        rw [hp] at hx
        obtain rfl : p = x := by simpa using hx
        exact (both y hy).1
      · rw [List.getElem?_set_ne e'] at hj
        exact h.conn j f x y hj hx hy
theorem sumN_step {F : List Int} {i k : Nat} {fi fk : Int} (hi : F[i]? = some fi) (hk : F[k]? = some fk) (hki : k < i) (h0 : 0 ≤ fi) (h1 : 0 ≤ fk) (hne : fi ≠ fk) : sumN ((F.set i (min fi fk)).set k (min fi fk)) < sumN F := by
  have a := sumN_set F i (min fi fk) fi hi
  have b := sumN_set (F.set i (min fi fk)) k (min fi fk) fk (by rw [List.getElem?_set_ne (by omega)]; exact hk)
  omega
/-- All neighbours have the same label. -/
def FlatL (corners : Bool) (P : List (Int × Int)) (F : List Int) : Prop := ∀ (i k : Nat) p q, k < i → P[i]? = some p → P[k]? = some q → nbB corners p q = true → F[i]? = F[k]?
theorem Lab.same {g : Int → Int → Int} {level : Int} {corners : Bool} {P : List (Int × Int)} {F : List Int} (hP : Pls g level P) (hf : FlatL corners P F) {i : Nat} {p q : Int × Int} (hp : P[i]? = some p) (hc : Conn g level corners p q) : ∀ k : Nat, P[k]? = some q → F[i]? = F[k]? := by
  have ap : abv g p.1 p.2 level = true := (hP.mem p).1 (List.mem_of_getElem? hp)
  induction hc with
  | refl => intro k hk; rw [hP.inj hp hk]
  | @step x y hx hy _ ih =>
    intro k hk
    obtain ⟨m, hm, e⟩ := List.getElem_of_mem ((hP.mem x).2 (Conn.abv ap hx))
    have hm' : P[m]? = some x := by rw [List.getElem?_eq_getElem hm, e]
    rw [ih m hm']
    have hb := mem_nb9.1 hy
    rcases (by omega : m < k ∨ m = k ∨ k < m) with hlt | e | hlt
    · exact (hf k m y x hlt hk hm' (nbB_symm hb)).symm
    · rw [e]
    · exact hf m k x y hlt hm' hk hb
/-- The cells with a label, of the first m. -/
def cellsOf (P : List (Int × Int)) (F : List Int) (j m : Nat) : List (Int × Int) := (((F.zip P).take m).filter fun z => decide (z.1 = (j : Int))).map (·.2)
def startsTo (F : List Int) (i : Nat) : List Nat := (List.range i).filter fun j => decide (F[j]? = some (j : Int))
def areasTo (P : List (Int × Int)) (F : List Int) (i : Nat) : List (List (Int × Int)) := (startsTo F i).map fun j => cellsOf P F j P.length
theorem cellsOf_nil {g : Int → Int → Int} {level : Int} {corners : Bool} {P : List (Int × Int)} {F : List Int} (h : Lab g level corners P F) (j : Nat) : cellsOf P F j j = [] := by
  unfold cellsOf
  rw [List.map_eq_nil_iff, List.filter_eq_nil_iff]
  intro z hz
  obtain ⟨k, hk, e⟩ := List.mem_take_iff_getElem.1 hz
  rw [List.getElem_zip] at e
  subst e
  have hkF : k < F.length := by simp only [List.length_zip] at hk; omega
  have := h.low k F[k] (List.getElem?_eq_getElem hkF)
  simp; omega
theorem cellsOf_succ {P : List (Int × Int)} {F : List Int} {j m : Nat} {f : Int} {p : Int × Int} (hf : F[m]? = some f) (hp : P[m]? = some p) : cellsOf P F j (m + 1) = if f = (j : Int) then cellsOf P F j m ++ [p] else cellsOf P F j m := by
  obtain ⟨h1, e1⟩ := List.getElem?_eq_some_iff.1 hf
  obtain ⟨h2, e2⟩ := List.getElem?_eq_some_iff.1 hp
  unfold cellsOf
  rw [List.take_succ_eq_append_getElem (by simp; omega), List.getElem_zip, e1, e2, List.filter_append, List.map_append]
  by_cases e : f = (j : Int)
  · rw [if_pos e]; simp [e]
  · rw [if_neg e]; simp [e]
theorem startsTo_succ {F : List Int} {i : Nat} {f : Int} (hf : F[i]? = some f) : startsTo F (i + 1) = if f = (i : Int) then startsTo F i ++ [i] else startsTo F i := by
  unfold startsTo
  rw [List.range_succ, List.filter_append]
  by_cases e : f = (i : Int)
  · rw [if_pos e]; simp [hf, e]
  · rw [if_neg e]; simp [hf, e]
theorem areasTo_succ {P : List (Int × Int)} {F : List Int} {i : Nat} {f : Int} (hf : F[i]? = some f) : areasTo P F (i + 1) = if f = (i : Int) then areasTo P F i ++ [cellsOf P F i P.length] else areasTo P F i := by
  unfold areasTo
  rw [startsTo_succ hf]
  by_cases e : f = (i : Int)
  · rw [if_pos e, if_pos e]; simp
  · rw [if_neg e, if_neg e]
theorem mem_cellsOf {P : List (Int × Int)} {F : List Int} {j : Nat} (hl : F.length = P.length) {x : Int × Int} : x ∈ cellsOf P F j P.length ↔ ∃ k : Nat, F[k]? = some (j : Int) ∧ P[k]? = some x := by
  unfold cellsOf
  rw [List.take_of_length_le (by simp; omega)]
  constructor
  · intro h
    obtain ⟨z, hz, rfl⟩ := List.mem_map.1 h
    obtain ⟨hz1, hz2⟩ := List.mem_filter.1 hz
    obtain ⟨k, hk, e⟩ := List.getElem_of_mem hz1
    rw [List.getElem_zip] at e
    have h1 : k < F.length := by simp only [List.length_zip] at hk; omega
    have h2 : k < P.length := by omega
    subst e
    exact ⟨k, by rw [List.getElem?_eq_getElem h1]; simpa using hz2, by rw [List.getElem?_eq_getElem h2]⟩
  · rintro ⟨k, hf, hp⟩
    obtain ⟨h1, e1⟩ := List.getElem?_eq_some_iff.1 hf
    obtain ⟨h2, e2⟩ := List.getElem?_eq_some_iff.1 hp
    refine List.mem_map.2 ⟨(F[k], P[k]), List.mem_filter.2 ⟨?_, by simp [e1]⟩, e2⟩
    have hk : k < (F.zip P).length := by simp; omega
    have := List.getElem_mem hk
    rwa [List.getElem_zip] at this
theorem areasTo_all {g : Int → Int → Int} {level : Int} {corners : Bool} {P : List (Int × Int)} {F : List Int} (hP : Pls g level P) (h : Lab g level corners P F) (hf : FlatL corners P F) : areasTo P F P.length = areasV g level corners P := by
  have hst : ∀ j ∈ startsTo F P.length, ∃ p, P[j]? = some p ∧ F[j]? = some (j : Int) ∧ j < P.length := fun j hj => by
    obtain ⟨h1, h2⟩ := List.mem_filter.1 hj
    rw [List.mem_range] at h1
    exact ⟨P[j], List.getElem?_eq_getElem h1, of_decide_eq_true h2, h1⟩
  have e1 : (startsTo F P.length).map (fun j => P[j]?.getD (0, 0)) = P.filter (startB g level corners P) := by
    refine eq_of_mem bef_asy ?_ (hP.asc.filter _) fun x => ?_
    · rw [List.pairwise_map]
      refine (List.pairwise_lt_range.sublist List.filter_sublist).imp_of_mem ?_
      intro a b ha hb hab
      obtain ⟨_, _, _, h1⟩ := hst a ha
      obtain ⟨_, _, _, h2⟩ := hst b hb
      rw [List.getElem?_eq_getElem h1, List.getElem?_eq_getElem h2]
      exact List.pairwise_iff_getElem.1 hP.asc a b h1 h2 hab
    · rw [List.mem_map, List.mem_filter]
      constructor
      · rintro ⟨j, hj, rfl⟩
        obtain ⟨p, hp, hF, hjl⟩ := hst j hj
        rw [hp]
        refine ⟨List.mem_of_getElem? hp, decide_eq_true fun q hq hc hb => ?_⟩
        obtain ⟨k, hk, e⟩ := List.getElem_of_mem hq
        have hk' : P[k]? = some q := by rw [List.getElem?_eq_getElem hk, e]
        have hs := Lab.same hP hf hk' hc j hp
        rw [hF] at hs
        have := (h.low k _ hs).2
        have := hP.lt_of hk' hp hb
        omega
      · rintro ⟨hx, hs⟩
        obtain ⟨i, hi, rfl⟩ := List.getElem_of_mem hx
        have hiF : i < F.length := by rw [h.len]; exact hi
        have hFi := List.getElem?_eq_getElem hiF
        have hlo := h.low i _ hFi
        have hfl : F[i].toNat < P.length := by omega
        have hc := h.conn i _ _ _ hFi (List.getElem?_eq_getElem hi) (List.getElem?_eq_getElem hfl)
        have hnb := of_decide_eq_true hs _ (List.getElem_mem hfl) hc
        have hnlt : ¬ F[i].toNat < i := fun hlt => hnb (List.pairwise_iff_getElem.1 hP.asc _ _ hfl hi hlt)
        refine ⟨i, List.mem_filter.2 ⟨List.mem_range.2 hi, decide_eq_true ?_⟩, by rw [List.getElem?_eq_getElem hi]; rfl⟩
        rw [hFi]; congr 1; omega
  unfold areasV areasTo
  rw [← e1, List.map_map]
  refine List.map_congr_left fun j hj => ?_
  obtain ⟨p, hp, hF, hjl⟩ := hst j hj
  show _ = compC g level corners P (P[j]?.getD (0, 0))
  rw [hp]
  refine comp_eq hP (List.mem_of_getElem? hp) ?_ fun x => ?_
  · refine hP.asc.sublist ?_
    have : ((F.zip P).map (·.2)) = P := List.map_snd_zip (by rw [h.len]; exact Nat.le_refl _)
    rw [← this]
    unfold cellsOf
    refine List.Sublist.map _ (List.filter_sublist.trans ?_)
    rw [this]
    exact List.take_sublist _ _
  · rw [mem_cellsOf h.len]
    constructor
    · rintro ⟨k, hk, hx⟩
      exact h.conn k _ x p hk hx (by rw [Int.toNat_natCast]; exact hp)
    · intro hc
      obtain ⟨k, hk, e⟩ := List.getElem_of_mem ((hP.mem x).2 (Conn.abv ((hP.mem p).1 (List.mem_of_getElem? hp)) hc))
      have hk' : P[k]? = some x := by rw [List.getElem?_eq_getElem hk, e]
      exact ⟨k, by rw [← Lab.same hP hf hp hc k hk']; exact hF, hk'⟩
/-- The cell with the greatest amplitude, found cell by cell. -/
theorem peakV_snoc (g : Int → Int → Int) {cs : List (Int × Int)} (h : cs ≠ []) (x : Int × Int) : peakV g (cs ++ [x]) = if g (peakV g cs).1 (peakV g cs).2 < g x.1 x.2 then x else peakV g cs := by
  unfold peakV
  cases cs with
  | nil => exact absurd rfl h
  | cons a t => simp [List.foldl_append]
theorem peakV_one (g : Int → Int → Int) (x : Int × Int) : peakV g [x] = x := by simp [peakV]
end Go.Proofs.YtidgeagpgllkeaaGreat

namespace Go.Proofs.YtidgeagpgllkeaaGreat

theorem nbB_corners {corners : Bool} {p q : Int × Int} (h : nbB corners p q = true) : nbB true p q = true := by
  unfold nbB keepB at *
  cases corners
  · simp only [Bool.and_eq_true] at *
    refine ⟨h.1, h.2.1, ?_⟩
    simp
  · exact h
theorem abv_low {g : Int → Int → Int} {r c level level' : Int} (hl : level ≤ level') (h : abv g r c level' = true) : abv g r c level = true := by
  rw [abv_iff] at *; omega
theorem Conn.low {g : Int → Int → Int} {level level' : Int} {corners : Bool} {p x : Int × Int} (hl : level ≤ level') (h : Conn g level' corners p x) : Conn g level true p x := by
  induction h with
  | refl => exact .refl
  | step _ hm ha ih => exact .step ih (mem_nb9.2 (nbB_corners (mem_nb9.1 hm))) (abv_low hl ha)
theorem ArS.start_in {g : Int → Int → Int} {level : Int} {corners : Bool} {P : List (Int × Int)} {Bs : List ((Int × Int) × ArA)} (h : ArS g level corners P P.length Bs) : ∀ q ∈ Bs, q.1 ∈ P := fun q hq => by
  have := h.sub
  rw [List.take_length] at this
  exact this.subset (List.mem_map_of_mem hq)
theorem ArS.flat {g : Int → Int → Int} {level : Int} {corners : Bool} {P : List (Int × Int)} {Bs : List ((Int × Int) × ArA)} (hP : Pls g level P) (h : ArS g level corners P P.length Bs) : (Bs.map fun q => q.2.2).flatten.Nodup ∧ ∀ x, x ∈ (Bs.map fun q => q.2.2).flatten ↔ x ∈ P := by
  constructor
  · unfold List.Nodup
    rw [List.pairwise_flatten]
    refine ⟨fun l hl => ?_, ?_⟩
    · obtain ⟨q, hq, rfl⟩ := List.mem_map.1 hl
      exact (h.each q hq).nodup
    · rw [List.pairwise_map]
      refine h.apart.imp_of_mem ?_
      intro a b ha hb hab x hx y hy e
      subst e
      refine hab (((h.each a ha).mem _).2 (((h.each a ha).mem x).1 hx |>.trans ?_))
      exact Conn.symm ((hP.mem _).1 (h.start_in b hb)) (((h.each b hb).mem x).1 hy)
  · intro x
    rw [List.mem_flatten]
    constructor
    · rintro ⟨l, hl, hx⟩
      obtain ⟨q, hq, rfl⟩ := List.mem_map.1 hl
      exact (hP.mem x).2 (Conn.abv ((hP.mem _).1 (h.start_in q hq)) (((h.each q hq).mem x).1 hx))
    · intro hx
      obtain ⟨q, hq, hm⟩ := h.cover x (by rw [List.take_length]; exact hx)
      exact ⟨_, List.mem_map_of_mem hq, hm⟩
theorem Pls.nodup {g : Int → Int → Int} {level : Int} {P : List (Int × Int)} (h : Pls g level P) : P.Nodup :=
  h.asc.imp (fun hb e => by subst e; exact bef_asy _ _ hb hb)
theorem ArS.sum {g : Int → Int → Int} {level : Int} {corners : Bool} {P : List (Int × Int)} {Bs : List ((Int × Int) × ArA)} (hP : Pls g level P) (h : ArS g level corners P P.length Bs) : (Bs.map fun q => q.2.2.length).sum = P.length := by
  obtain ⟨h1, h2⟩ := h.flat hP
  have a := nodup_len _ P h1 fun x hx => (h2 x).1 hx
  have b := nodup_len P _ hP.nodup fun x hx => (h2 x).2 hx
  rw [List.length_flatten, List.map_map] at a b
  exact Nat.le_antisymm a b
theorem AreaOk.pos {g : Int → Int → Int} {level : Int} {corners : Bool} {p : Int × Int} {cs : List (Int × Int)} (h : AreaOk g level corners p cs) : 0 < cs.length := List.length_pos_of_mem ((h.mem p).2 .refl)
end Go.Proofs.YtidgeagpgllkeaaGreat
