/- Plain laws: the cells that hang together with a cell, found one behind the other. -/
import Derived.Test.YtidgeagpgllkeaaGreatFaO
import Derived.Test.YtidgeagpgllkeaaGreatFaV
namespace Go.Proofs.YtidgeagpgllkeaaGreat
open Go.RowKit

/-- The places around a place. -/
def nb9 (corners : Bool) (p : Int × Int) : List (Int × Int) := nbV p.1 p.2 corners 9
/-- What hangs together with a cell. -/
inductive Conn (g : Int → Int → Int) (level : Int) (corners : Bool) (from_ : Int × Int) : Int × Int → Prop
  | refl : Conn g level corners from_ from_
  | step {x y : Int × Int} : Conn g level corners from_ x → y ∈ nb9 corners x → abv g y.1 y.2 level = true → Conn g level corners from_ y
def addN (g : Int → Int → Int) (level : Int) (L : List (Int × Int)) (x : Int × Int) : List (Int × Int) := if decide (x ∈ L) = false ∧ abv g x.1 x.2 level = true then L ++ [x] else L

/-- What has been found when the first i cells have been looked at. -/
structure Bfs (g : Int → Int → Int) (level : Int) (corners : Bool) (from_ : Int × Int) (i : Nat) (L : List (Int × Int)) : Prop where
  nodup : L.Nodup
  has : from_ ∈ L
  conn : ∀ x ∈ L, Conn g level corners from_ x
  closed : ∀ j (h : j < L.length), j < i → ∀ y ∈ nb9 corners L[j], abv g y.1 y.2 level = true → y ∈ L
  le : i ≤ L.length
/-- The same within a round: pre has been looked at. -/
structure BfsIn (g : Int → Int → Int) (level : Int) (corners : Bool) (from_ : Int × Int) (i : Nat) (p : Int × Int) (pre L : List (Int × Int)) : Prop where
  nodup : L.Nodup
  has : from_ ∈ L
  conn : ∀ x ∈ L, Conn g level corners from_ x
  closed : ∀ j (h : j < L.length), j < i → ∀ y ∈ nb9 corners L[j], abv g y.1 y.2 level = true → y ∈ L
  lt : i < L.length
  at_ : ∀ h : i < L.length, L[i] = p
  seen : ∀ y ∈ pre, abv g y.1 y.2 level = true → y ∈ L
section
variable {g : Int → Int → Int} {level : Int} {corners : Bool} {from_ p : Int × Int} {i : Nat} {L pre : List (Int × Int)}
theorem Bfs.start (g : Int → Int → Int) (level : Int) (corners : Bool) (from_ : Int × Int) : Bfs g level corners from_ 0 [from_] :=
  ⟨by simp, by simp, by simp only [List.mem_singleton]; rintro x rfl; exact .refl, fun j _ hj => absurd hj (by omega), by simp⟩
theorem Bfs.enter (h : Bfs g level corners from_ i L) (hi : i < L.length) : BfsIn g level corners from_ i L[i] [] L :=
  ⟨h.nodup, h.has, h.conn, h.closed, hi, fun _ => rfl, fun y hy => by cases hy⟩
theorem BfsIn.add (h : BfsIn g level corners from_ i p pre L) (x : Int × Int) (hx : x ∈ nb9 corners p) : BfsIn g level corners from_ i p (pre ++ [x]) (addN g level L x) := by
  unfold addN
  split
  · rename_i hc
    have hnot : x ∉ L := by simpa using hc.1
    have hp : p ∈ L := by have := h.at_ h.lt; rw [← this]; exact List.getElem_mem _
    refine ⟨?_, by simp [h.has], ?_, ?_, by simp; have := h.lt; omega, fun hl => ?_, ?_⟩
    · rw [List.nodup_append]
      exact ⟨h.nodup, by simp, fun a ha b hb => by simp at hb; subst hb; exact fun e => hnot (e ▸ ha)⟩
    · intro y hy
      rcases List.mem_append.1 hy with hy | hy
      · exact h.conn y hy
      · simp at hy; subst hy; exact .step (h.conn p hp) hx hc.2
    · intro j hj hji y hy ha
      have hjl : j < L.length := by have := h.lt; omega
      rw [List.getElem_append_left hjl] at hy
      exact List.mem_append_left _ (h.closed j hjl hji y hy ha)
    · rw [List.getElem_append_left h.lt]; exact h.at_ h.lt
    · intro y hy ha
      rcases List.mem_append.1 hy with hy | hy
      · exact List.mem_append_left _ (h.seen y hy ha)
      · simp at hy; subst hy; simp
  · rename_i hc
    refine ⟨h.nodup, h.has, h.conn, h.closed, h.lt, h.at_, fun y hy ha => ?_⟩
    rcases List.mem_append.1 hy with hy | hy
    · exact h.seen y hy ha
    · simp at hy; subst hy
      by_cases hm : y ∈ L
      · exact hm
      · exact absurd ⟨by simpa using hm, ha⟩ hc
theorem BfsIn.leave (h : BfsIn g level corners from_ i p (nb9 corners p) L) : Bfs g level corners from_ (i + 1) L := by
  refine ⟨h.nodup, h.has, h.conn, fun j hj hji y hy ha => ?_, h.lt⟩
  by_cases e : j = i
  · subst e
    rw [h.at_ hj] at hy
    exact h.seen y hy ha
  · exact h.closed j hj (by omega) y hy ha
theorem Bfs.all (h : Bfs g level corners from_ L.length L) (x : Int × Int) : x ∈ L ↔ Conn g level corners from_ x := by
  refine ⟨h.conn x, fun hc => ?_⟩
  induction hc with
  | refl => exact h.has
  | step _ hy ha ih =>
    obtain ⟨j, hj, rfl⟩ := List.getElem_of_mem ih
    exact h.closed j hj hj _ hy ha
theorem Conn.abv (h0 : abv g from_.1 from_.2 level = true) {x : Int × Int} (h : Conn g level corners from_ x) : Proofs.YtidgeagpgllkeaaGreat.abv g x.1 x.2 level = true := by
  cases h with
  | refl => exact h0
  | step _ _ ha => exact ha
end
theorem abv_iff (g : Int → Int → Int) (r c level : Int) : abv g r c level = true ↔ 0 ≤ g r c ∧ level ≤ g r c := by simp [abv]

/-- The cells of an area, ascending. -/
structure AreaOk (g : Int → Int → Int) (level : Int) (corners : Bool) (from_ : Int × Int) (cs : List (Int × Int)) : Prop where
  sorted : cs.Pairwise fun x y => leC x y = true
  nodup : cs.Nodup
  mem : ∀ x, x ∈ cs ↔ Conn g level corners from_ x
theorem Bfs.area {g : Int → Int → Int} {level : Int} {corners : Bool} {from_ : Int × Int} {L : List (Int × Int)} (h : Bfs g level corners from_ L.length L) : AreaOk g level corners from_ (sortC L) :=
  ⟨sortC_sorted L, (sortC_perm L).nodup_iff.2 h.nodup, fun x => by rw [(sortC_perm L).mem_iff]; exact h.all x⟩

theorem nodup_len {α : Type} [BEq α] [LawfulBEq α] : ∀ (A B : List α), A.Nodup → (∀ a ∈ A, a ∈ B) → A.length ≤ B.length
  | [], _, _, _ => by simp
  | a :: A, B, hn, h => by
    obtain ⟨h1, h2⟩ := List.nodup_cons.1 hn
    have hm : a ∈ B := h a (by simp)
    have := nodup_len A (B.erase a) h2 fun x hx => (List.mem_erase_of_ne (fun e => h1 (by subst e; exact hx))).2 (h x (by simp [hx]))
    rw [List.length_erase_of_mem hm] at this
    have hp : 0 < B.length := List.length_pos_of_mem hm
    simp; omega

/-- No more different known cells than the map has entries. -/
theorem FMap.count {w : World} {b n : Nat} {g : Int → Int → Int} (h : FMap w b n g) {L : List (Int × Int)} (hn : L.Nodup) (hL : ∀ x ∈ L, 0 ≤ g x.1 x.2 ∧ W64 x.1 ∧ W64 x.2) : L.length ≤ n := by
  obtain ⟨D, h, k⟩ := h
  obtain ⟨es, hD, _, _⟩ := h.entries cellLaw
  have hsz := h.size_le
  subst hD
  have hsz' : es.length ≤ n := hsz
  have key : ∀ x ∈ L.map fun x => kl x.1 x.2, x ∈ es.map (·.1) := by
    intro l hl
    obtain ⟨x, hx, rfl⟩ := List.mem_map.1 hl
    obtain ⟨h0, h1, h2⟩ := hL x hx
    have hh := (k x.1 x.2 h1 h2).1
    rw [show decide (0 ≤ g x.1 x.2) = true by simpa using h0] at hh
    obtain ⟨p, hp, hpk⟩ := List.any_eq_true.1 hh
    exact List.mem_map.2 ⟨p, hp, WideAt.sameKey_eq hpk⟩
  have hnd : (L.map fun x => kl x.1 x.2).Nodup := by
    rw [List.nodup_iff_pairwise_ne, List.pairwise_map]
    refine List.Pairwise.imp_of_mem ?_ (List.nodup_iff_pairwise_ne.1 hn)
    intro a b ha hb hab e
    obtain ⟨_, a1, a2⟩ := hL a ha
    obtain ⟨_, b1, b2⟩ := hL b hb
    obtain ⟨e1, e2⟩ := kl_inj a1 a2 b1 b2 e
    exact hab (Prod.ext e1 e2)
  have : (L.map fun x => kl x.1 x.2).length ≤ (es.map (·.1)).length := by
    classical
    letI : BEq Lit := instBEqOfDecidableEq (α := Lit)
    exact nodup_len _ _ hnd key
  simpa using Nat.le_trans this (by simpa using hsz')
end Go.Proofs.YtidgeagpgllkeaaGreat
