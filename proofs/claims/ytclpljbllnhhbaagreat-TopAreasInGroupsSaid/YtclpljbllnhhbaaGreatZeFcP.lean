/- Contracts: lists of numbers compared; the marks of the fifth example. Equality of values without pointers. Contract: the examples that the statements of chapter 8 begin with. -/
import Derived.DeepKeys
import Derived.Test.YtclpljbllnhhbaaGreatZeFcN
import Derived.Test.YtclpljbllnhhbaaGreatZeFbE
import Derived.Test.YtclpljbllnhhbaaGreatZeFaH
namespace Go.Proofs.YtclpljbllnhhbaaGreat
open Go.RowKit

set_option maxHeartbeats 400000 in
theorem whole_any (n : Int) (w : World) : Calls Tryz.prog 17 #[.int .i64 n] w fun e w' => e = .returned (.agg #[.int .i64 n, .int .i64 1]) ∧ Below w.heap.size w w' := by
  go_enter Tryz.func17, Tryz.ntmps17
  have b2 := Blk.new w 60 #[.int .i64 n, .int .i64 1]
  have u0 := b2.cell 0
  have u1 := b2.cell 1
  go_wp2
  exact bodyPost_ret (v := .agg #[.int .i64 n, .int .i64 1]) (by simp [results, Tryz.results17, go_sem, u0, u1]) rfl ⟨rfl, (by repeat (first | (with_reducible exact Below.refl _ _) | (with_reducible assumption) | ((with_reducible refine Below.setCell ?_ ?_ _); rotate_left; · (first | exact Nat.le_refl _ | (simp; done) | (simp; omega) | omega)) | ((with_reducible refine Below.alloc ?_ ?_ _); rotate_left; · (first | exact Nat.le_refl _ | (simp; done) | (simp; omega) | omega)) | (with_reducible apply Below.drew) | (with_reducible apply below_drewN') | (refine Below.trans ?_ (Below.mono (by assumption) (by first | exact Nat.le_refl _ | (simp; done) | (simp; omega) | omega))) | exact Below.refl _ _ | assumption))⟩

end Go.Proofs.YtclpljbllnhhbaaGreat

namespace Go.Proofs.YtclpljbllnhhbaaGreat
open Go.RowKit

theorem run_eq_int {d : Nat} (a c : Int) (w : World) : (Op.equalIn (d + 1) 3 (.int .i64 a) (.int .i64 c)).run Tryz.prog w = .ok (decide (a = c)) w := by
  have hu : Tryz.prog.underlying 3 = some (.int .i64) := by kernel_rfl
  simp [Op.equalIn, run_underlying hu]
  rfl
theorem run_eq_str {d : Nat} (a c : ByteArray) (w : World) : (Op.equalIn (d + 1) 9 (.string a) (.string c)).run Tryz.prog w = .ok (a == c) w := by
  have hu : Tryz.prog.underlying 9 = some .string := by kernel_rfl
  simp [Op.equalIn, run_underlying hu]
theorem part_int (xs : Array Value) (i : Nat) (a : Value) (h : xs[i]? = some a) (w : World) : (part 3 xs i).run Tryz.prog w = .ok a w := run_part_plain w (by kernel_rfl) h
theorem part_str (xs : Array Value) (i : Nat) (a : Value) (h : xs[i]? = some a) (w : World) : (part 9 xs i).run Tryz.prog w = .ok a w := run_part_plain w (by kernel_rfl) h
theorem eq_range' (d : Nat) (a b c e : Int) (w : World) : (Op.equalIn (d + 2) 44 (.agg #[.int .i64 a, .int .i64 b]) (.agg #[.int .i64 c, .int .i64 e])).run Tryz.prog w = .ok (decide (a = c) && decide (b = e)) w := by
  have hs : (Tryz.prog.stoodInHeld 44) = false := by kernel_rfl
  unfold Op.equalIn
  by_cases h1 : a = c <;> by_cases h2 : b = e <;>
    simp [run_underlying Tryz.underlying44, hs, part_int, run_eq_int, h1, h2]
theorem eq_cell' (d : Nat) (a b c e : Int) (w : World) : (Op.equalIn (d + 2) 39 (.agg #[.int .i64 a, .int .i64 b]) (.agg #[.int .i64 c, .int .i64 e])).run Tryz.prog w = .ok (decide (a = c) && decide (b = e)) w := by
  obtain ⟨i, hi⟩ := Option.isSome_iff_exists.1 (show (Tryz.prog.info? 3).isSome = true by kernel_rfl)
  have hc : Tryz.prog.cellsOf 3 = 1 := by kernel_rfl
  rw [run_equalIn_array w (d + 1) _ _ Tryz.underlying39 hi, hc]
  by_cases h1 : a = c <;> by_cases h2 : b = e <;>
    simp [List.range, List.range.loop, Op.eqItems, part_int, run_eq_int, h1, h2]
theorem eq_cell (a b c e : Int) (w : World) : (Op.equalIn 10000 39 (.agg #[.int .i64 a, .int .i64 b]) (.agg #[.int .i64 c, .int .i64 e])).run Tryz.prog w = .ok (decide (a = c) && decide (b = e)) w := eq_cell' 9998 a b c e w

theorem eq_cell_same (a b : Int) (w : World) : (Op.equalIn 10000 39 (.agg #[.int .i64 a, .int .i64 b]) (.agg #[.int .i64 a, .int .i64 b])).run Tryz.prog w = .ok true w := (eq_cell a b a b w).trans (by simp)
end Go.Proofs.YtclpljbllnhhbaaGreat

namespace Go.Proofs.YtclpljbllnhhbaaGreat
open Go.RowKit

theorem row_own {w : World} {base e n c : Nat} {A : Option Addr} {xs : List Value} (h : w.ownsRow base e 1 (.slice A n c) n xs) (hl : xs.length = n) : Row w w.heap.size 1 A n xs :=
  ⟨by omega, fun hn => by
    obtain ⟨g, c', hv, h1, h2⟩ := h.form hn
    injection hv with e1 e2 e3
    subst e1
    exact ⟨g, 0, rfl, h2, fun j u hj => by have := h.cells (g := g) rfl j u hj; rwa [Addr.add_lit] at this⟩⟩

def outs (U : World) : List (Value × List Int) := [(.slice (some ⟨U.heap.size, 0, none⟩) 2 2, [0, 1]), (.slice (some ⟨U.heap.size + 1, 0, none⟩) 1 1, [2])]

end Go.Proofs.YtclpljbllnhhbaaGreat
