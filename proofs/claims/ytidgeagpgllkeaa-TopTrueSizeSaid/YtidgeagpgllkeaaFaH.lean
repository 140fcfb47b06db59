/- Contract: the length of a drop. -/
import Derived.Test.YtidgeagpgllkeaaFaG
namespace Go.Proofs.Ytidgeagpgllkeaa
open Go.RowKit

/-- How many of the places in a row are not below a share of a level; nothing, if one that is not known comes first. -/
def runV (g : Nat → Int) (own num den : Int) : Nat → Nat → Option Nat
  | 0, _ => none
  | f + 1, j => if g j < 0 then none else if g j * den < own * num then some j else runV g own num den f (j + 1)
def prV (p0 p2 d : Int) (j : Nat) : Int := if p2 = 0 then p0 + d * j else p0
def pcV (p1 p2 d : Int) (j : Nat) : Int := if p2 = 0 then p1 else p1 + d * j
def seqV (l : List Sc) (p0 p1 p2 d : Int) (j : Nat) : Int := atV l (prV p0 p2 d (j + 1)) (pcV p1 p2 d (j + 1))
/-- What both sides give together. -/
def bothV (l : List Sc) (p0 p1 p2 num den : Int) : RE :=
  match runV (seqV l p0 p1 p2 (-1)) (atV l p0 p1) num den 300000 0 with
    | none => ⟨0, 0, 14⟩
    | some a => match runV (seqV l p0 p1 p2 1) (atV l p0 p1) num den 300000 0 with
      | none => ⟨0, 0, 14⟩
      | some b => ⟨(a : Int) + b, (a : Int) + b + 2, 0⟩
def dropV (l : List Sc) (p0 p1 p2 num den : Int) : RE :=
  if (scansE l).2 ≠ 0 then ⟨0, 0, (scansE l).2⟩ else if wi p2 0 1 = false then ⟨0, 0, 15⟩ else if lowB num den = false then ⟨0, 0, 3⟩ else if num < 1 ∨ den < num ∨ 1000 < den then ⟨0, 0, 2⟩
  else if atV l p0 p1 < 0 then ⟨0, 0, 6⟩ else if atV l p0 p1 = 0 then ⟨0, 0, 11⟩ else bothV l p0 p1 p2 num den
/-- Behind k sides. -/
def dropSt (l : List Sc) (p0 p1 p2 num den : Int) (k L : Nat) : Prop :=
  (k = 0 ∧ L = 0) ∨ (k = 1 ∧ runV (seqV l p0 p1 p2 (-1)) (atV l p0 p1) num den 300000 0 = some L) ∨ (k = 2 ∧ bothV l p0 p1 p2 num den = ⟨(L : Int), (L : Int) + 2, 0⟩)
theorem dropSt_step {l : List Sc} {p0 p1 p2 num den : Int} {k L : Nat} (h : dropSt l p0 p1 p2 num den k L) (hk : k < 2) : ∃ d : Int, (k = 0 ∧ d = -1 ∨ k = 1 ∧ d = 1) ∧
    (∀ j, runV (seqV l p0 p1 p2 d) (atV l p0 p1) num den 300000 0 = some j → dropSt l p0 p1 p2 num den (k + 1) (L + j)) ∧ (runV (seqV l p0 p1 p2 d) (atV l p0 p1) num den 300000 0 = none → bothV l p0 p1 p2 num den = ⟨0, 0, 14⟩) := by
  rcases h with ⟨rfl, rfl⟩ | ⟨rfl, h⟩ | ⟨rfl, h⟩
  · refine ⟨-1, .inl ⟨rfl, rfl⟩, fun j hj => .inr (.inl ⟨rfl, by simpa using hj⟩), fun hj => ?_⟩
    unfold bothV; rw [hj]
  · refine ⟨1, .inr ⟨rfl, rfl⟩, fun j hj => .inr (.inr ⟨rfl, ?_⟩), fun hj => ?_⟩
    · unfold bothV; rw [h]; dsimp only; rw [hj]; simp
    · unfold bothV; rw [h]; dsimp only; rw [hj]
  · omega
theorem dropSt_two {l : List Sc} {p0 p1 p2 num den : Int} {L : Nat} (h : dropSt l p0 p1 p2 num den 2 L) : bothV l p0 p1 p2 num den = ⟨(L : Int), (L : Int) + 2, 0⟩ := by
  rcases h with ⟨h, _⟩ | ⟨h, _⟩ | ⟨_, h⟩
  · omega
  · omega
  · exact h
theorem runV_step (g : Nat → Int) (own num den : Int) (j : Nat) (h : j < 300000) : runV g own num den (300000 - j) j = if g j < 0 then none else if g j * den < own * num then some j else runV g own num den (300000 - (j + 1)) (j + 1) := by
  obtain ⟨f, hf⟩ : ∃ f, 300000 - j = f + 1 := ⟨300000 - j - 1, by omega⟩
  rw [hf, show 300000 - (j + 1) = f by omega]
  rfl
theorem index_step (k : Nat) (d : Int) (h : k = 0 ∧ d = -1 ∨ k = 1 ∧ d = 1) (W : World) : (Instr.index 23 (.agg #[.int .i64 (-1), .int .i64 1]) (.int .i64 (k : Int))).run Try.prog W = .ok (.int .i64 d) W := by
  rcases h with ⟨rfl, rfl⟩ | ⟨rfl, rfl⟩ <;> kernel_rfl

theorem atV_known {l : List Sc} {r c : Int} (h : ∀ s ∈ l, ScGood s) (h0 : 0 ≤ atV l r c) : -100000 ≤ r ∧ r ≤ 100023 ∧ -100000 ≤ c ∧ c ≤ 100023 := by
  have key : ∀ (l : List Sc) (b : Int), (∀ s ∈ l, ScGood s) → b < 0 → 0 ≤ l.foldl (fun b s => atS b s r c) b → ∃ s ∈ l, inB s r c = true := by
    intro l
    induction l with
    | nil => intro b _ hb h; simp at h; omega
    | cons s l ih =>
      intro b hg hb h
      by_cases hi : inB s r c = true
      · exact ⟨s, by simp, hi⟩
      · have e : atS b s r c = b := by unfold atS; rw [if_neg hi]
        rw [List.foldl_cons, e] at h
        obtain ⟨x, hx, hxi⟩ := ih b (fun y hy => hg y (by simp [hy])) hb h
        exact ⟨x, by simp [hx], hxi⟩
  obtain ⟨s, hs, hi⟩ := key l (-1) h (by omega) h0
  have G := h s hs
  have a1 := G.row; have a2 := G.col; have a3 := G.rows; have a4 := G.cols
  simp [inB, wi] at hi
  omega


theorem FMap.base {w : World} {b n : Nat} {g : Int → Int → Int} (h : FMap w b n g) : b < w.heap.size := h.lt
theorem BMap.base {w : World} {b n : Nat} {g : Int → Int → Bool} (h : BMap w b n g) : b < w.heap.size := h.lt
theorem blk3c {w : World} {g t : Nat} {v0 v1 v2 : Value} (h : Blk w g t #[v0, v1, v2]) : w.cell? ⟨g, 0, none⟩ = some v0 ∧ w.cell? ⟨g, 1, none⟩ = some v1 ∧ w.cell? ⟨g, 2, none⟩ = some v2 ∧ ∀ i, w.frozen? ⟨g, i, none⟩ = false :=
  ⟨h.cell 0, h.cell 1, h.cell 2, h.frozen⟩
/-- The two cells of a result, behind a store. -/
theorem ret2 {w : World} {g t : Nat} {v0 v1 : Value} (h : Blk w g t #[v0, v1]) (u0 u1 : Value) :
    ((w.setCell ⟨g, 0, none⟩ u0).setCell ⟨g, 1, none⟩ u1).cell? ⟨g, 0, none⟩ = some u0 ∧ ((w.setCell ⟨g, 0, none⟩ u0).setCell ⟨g, 1, none⟩ u1).cell? ⟨g, 1, none⟩ = some u1 :=
  ⟨(h.set2 u0 u1).cell 0, (h.set2 u0 u1).cell 1⟩

end Go.Proofs.Ytidgeagpgllkeaa
