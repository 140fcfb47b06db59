/- The labels of the reference's areas: what lies in memory. -/
import Derived.Test.YtidgeagpgllkeaaGreatZdFkB
namespace Go.Proofs.YtidgeagpgllkeaaGreat
open Go.RowKit

theorem intsC_set (F : List Int) (k : Nat) (x : Int) : intsC (F.set k x) = (intsC F).set k (.int .i64 x) := by simp [intsC, List.map_set]
theorem made_ints (n : Nat) : (madeCells (Value.int IntKind.i64 0).cells (n * 1)).toList = intsC (List.replicate n 0) := by
  rw [Nat.mul_one]
  show (madeCells #[Value.int IntKind.i64 0] n).toList = _
  rw [toList_madeCells_one]
  simp [intsC]

/-- Labels, in a row of the call's own. -/
structure LbM (V : World) (p N : Nat) (F : List Int) (W : World) : Prop where
  own : W.ownsRow V.heap.size 3 1 (.slice (some ⟨p, 0, none⟩) N N) N (intsC F)
  below : Below V.heap.size V W
section
variable {V W W' : World} {p N : Nat} {F : List Int}
theorem LbM.gr (h : LbM V p N F W) (hk : Gr W W') : LbM V p N F W' := ⟨own_below h.own hk, h.below.trans (Below.mono hk (Below.size h.below))⟩
theorem LbM.drew (h : LbM V p N F W) : LbM V p N F W.drew := ⟨h.own.drew, h.below.drew⟩
theorem LbM.len (h : LbM V p N F W) : F.length = N := by have := h.own.1; simp [intsC] at this; omega
theorem LbM.cell (h : LbM V p N F W) {k : Nat} {x : Int} (hk : F[k]? = some x) : W.cell? ⟨p, k, none⟩ = some (.int .i64 x) := by
  have := h.own.cells (g := p) rfl k (.int .i64 x) (by simp [intsC, hk])
  rwa [Addr.add_lit, Nat.zero_add] at this
theorem LbM.frozen (h : LbM V p N F W) (k : Nat) : W.frozen? ⟨p, k, none⟩ = false := h.own.frozenAt k
theorem LbM.lt (h : LbM V p N F W) : p < W.heap.size := (h.own.lt p rfl).2
theorem LbM.low (h : LbM V p N F W) : V.heap.size ≤ p := (h.own.lt p rfl).1
theorem LbM.put (h : LbM V p N F W) (k : Nat) (x : Int) : LbM V p N (F.set k x) (W.setCell ⟨p, k, none⟩ (.int .i64 x)) := by
  obtain ⟨r1, _⟩ := h.own.stored k (.int .i64 x)
  exact ⟨by rw [intsC_set]; exact r1, h.below.setCell h.low _⟩
end
end Go.Proofs.YtidgeagpgllkeaaGreat
