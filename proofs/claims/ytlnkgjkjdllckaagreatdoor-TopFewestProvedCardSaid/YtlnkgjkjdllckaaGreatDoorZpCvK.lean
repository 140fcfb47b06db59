/- Contract: the sure part of a face (where nothing is wrong). -/
import Derived.Test.YtlnkgjkjdllckaaGreatDoorZpCvJ
namespace Go.Proofs.YtlnkgjkjdllckaaGreatDoor
open Go.RowKit

theorem Below.set10 {n g : Nat} {a b : World} {u0 u1 u2 u3 u4 u5 u6 u7 u8 u9 : Value} (h : Below n a b) (hg : n ≤ g) :
    Below n a ((((((((((b.setCell ⟨g, 0, none⟩ u0).setCell ⟨g, 1, none⟩ u1).setCell ⟨g, 2, none⟩ u2).setCell ⟨g, 3, none⟩ u3).setCell ⟨g, 4, none⟩ u4).setCell ⟨g, 5, none⟩ u5).setCell ⟨g, 6, none⟩ u6).setCell ⟨g, 7, none⟩ u7).setCell ⟨g, 8, none⟩ u8).setCell ⟨g, 9, none⟩ u9) :=
  (((((((((h.setCell hg _).setCell hg _).setCell hg _).setCell hg _).setCell hg _).setCell hg _).setCell hg _).setCell hg _).setCell hg _).setCell hg _
theorem Blk.set10 {g : Nat} {b : World} {t : TypeId} {v0 v1 v2 v3 v4 v5 v6 v7 v8 v9 : Value} (h : Blk b g t #[v0, v1, v2, v3, v4, v5, v6, v7, v8, v9]) (u0 u1 u2 u3 u4 u5 u6 u7 u8 u9 : Value) :
    Blk ((((((((((b.setCell ⟨g, 0, none⟩ u0).setCell ⟨g, 1, none⟩ u1).setCell ⟨g, 2, none⟩ u2).setCell ⟨g, 3, none⟩ u3).setCell ⟨g, 4, none⟩ u4).setCell ⟨g, 5, none⟩ u5).setCell ⟨g, 6, none⟩ u6).setCell ⟨g, 7, none⟩ u7).setCell ⟨g, 8, none⟩ u8).setCell ⟨g, 9, none⟩ u9) g t #[u0, u1, u2, u3, u4, u5, u6, u7, u8, u9] := by
  have e := (((((((((h.set_ 0 u0).set_ 1 u1).set_ 2 u2).set_ 3 u3).set_ 4 u4).set_ 5 u5).set_ 6 u6).set_ 7 u7).set_ 8 u8).set_ 9 u9
  simp only [List.setIfInBounds_toArray, List.set_cons_zero, List.set_cons_succ] at e
  exact e

theorem su_all {w : World} {g : Nat} {sn : ByteArray} {s : Su} (h : Blk w g 34 (suC sn s)) :
    w.cell? ⟨g, 0, none⟩ = some (.string sn) ∧ w.cell? ⟨g, 1, none⟩ = some (.int .i64 s.at_) ∧ w.cell? ⟨g, 2, none⟩ = some (.int .i64 s.side) ∧ w.cell? ⟨g, 3, none⟩ = some (.int .i64 s.legs) ∧
    w.cell? ⟨g, 4, none⟩ = some (.int .i64 s.ln) ∧ w.cell? ⟨g, 5, none⟩ = some (.int .i64 s.ld) ∧ w.cell? ⟨g, 6, none⟩ = some (.int .i64 s.mn) ∧ w.cell? ⟨g, 7, none⟩ = some (.int .i64 s.md) ∧
    w.cell? ⟨g, 8, none⟩ = some (.int .i64 s.tn) ∧ w.cell? ⟨g, 9, none⟩ = some (.int .i64 s.td) ∧ ∀ i, w.frozen? ⟨g, i, none⟩ = false :=
  ⟨h.cell 0, h.cell 1, h.cell 2, h.cell 3, h.cell 4, h.cell 5, h.cell 6, h.cell 7, h.cell 8, h.cell 9, h.frozen⟩

theorem met_cells (thick : Int) (nm : ByteArray) (fx fz tx tz : Int) (sn : ByteArray) (at_ side legs ln ld mn md tn td : Int) (w : World) (hE : Ends w) (L : Lim thick ⟨fx, fz, tx, tz⟩ ⟨at_, side, legs, ln, ld, mn, md, tn, td⟩) :
    Calls Tryz.prog 37 #[.int .i64 thick, .agg #[.string nm, .int .i64 fx, .int .i64 fz, .int .i64 tx, .int .i64 tz], .agg #[.string sn, .int .i64 at_, .int .i64 side, .int .i64 legs, .int .i64 ln, .int .i64 ld, .int .i64 mn, .int .i64 md, .int .i64 tn, .int .i64 td]] w
      fun e w' => e = .returned (.agg #[.int .i64 (metV thick ⟨fx, fz, tx, tz⟩ ⟨at_, side, legs, ln, ld, mn, md, tn, td⟩).a, .int .i64 (metV thick ⟨fx, fz, tx, tz⟩ ⟨at_, side, legs, ln, ld, mn, md, tn, td⟩).b, .int .i64 (metV thick ⟨fx, fz, tx, tz⟩ ⟨at_, side, legs, ln, ld, mn, md, tn, td⟩).c,
        .int .i64 (metV thick ⟨fx, fz, tx, tz⟩ ⟨at_, side, legs, ln, ld, mn, md, tn, td⟩).d, .bool (metV thick ⟨fx, fz, tx, tz⟩ ⟨at_, side, legs, ln, ld, mn, md, tn, td⟩).none, .bool (metV thick ⟨fx, fz, tx, tz⟩ ⟨at_, side, legs, ln, ld, mn, md, tn, td⟩).up]) ∧ Below w.heap.size w w' :=
  met_any thick ⟨fx, fz, tx, tz⟩ ⟨at_, side, legs, ln, ld, mn, md, tn, td⟩ nm sn w hE L

end Go.Proofs.YtlnkgjkjdllckaaGreatDoor
