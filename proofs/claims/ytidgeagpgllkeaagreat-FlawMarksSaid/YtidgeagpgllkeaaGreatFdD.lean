/- Openers of the arguments of chapter 8: ranges, tips, fractions, rules, marks. -/
import Derived.Test.YtidgeagpgllkeaaGreatFcP
import Derived.Test.YtidgeagpgllkeaaGreatFbH
namespace Go.Proofs.YtidgeagpgllkeaaGreat
open Go.ChangeShapes Go.WideShapes Go.ChangeAt Go.RowKit

theorem cellsRange : Tryz.prog.cellsOf 48 = 2 := by kernel_rfl
theorem cellsFrac : Tryz.prog.cellsOf 45 = 2 := by kernel_rfl
theorem cellsTip : Tryz.prog.cellsOf 57 = 5 := by kernel_rfl
theorem cellsRule : Tryz.prog.cellsOf 62 = 4 := by kernel_rfl
theorem cellsMark : Tryz.prog.cellsOf 79 = 6 := by kernel_rfl
theorem cellsStr : Tryz.prog.cellsOf 9 = 1 := by kernel_rfl

section
variable {H : Type} {enc : TypeId × Value → H} {w : World} {base b0 : Nat} {spare : Nat → Bool} {held : Bool} {r : Reach} {v : Value} {d : DataW H} {ps : List MemPlace}
set_option maxRecDepth 4000 in
/-- A struct's cells. -/
theorem open_cells {t : TypeId} {fs : Array Field} (ht : Tryz.prog.underlying t = some (.struct fs)) (hval : Value.okWide Tryz.prog w r b0 t v) (hd : DataW.Trod enc Tryz.prog w base spare held t v d ps) :
    ∃ xs : Array Value, v = .agg xs ∧ ∃ fuel x, DataW.trod enc Tryz.prog w base spare held fuel t xs.toList = some x := by
  obtain ⟨xs, rfl, _⟩ : ∃ xs : Array Value, v = .agg xs ∧ xs.size = Tryz.prog.cellsOf t := by
    simp only [Value.okWide, ht] at hval
    obtain ⟨cs, h1, h2, _⟩ := hval
    exact ⟨cs, h1, h2⟩
  obtain ⟨fuel, hf⟩ := hd
  exact ⟨xs, rfl, fuel, _, hf⟩
theorem arr_eq {xs : Array Value} {l : List Value} (h : xs.toList = l) : xs = l.toArray := by apply Array.ext'; simpa using h
set_option maxRecDepth 4000 in
theorem open_range_ {fuel : Nat} {cs : List Value} {x : DataW H × List MemPlace} (h : DataW.trod enc Tryz.prog w base spare held fuel 48 cs = some x) : ∃ a b : Int, cs = [.int .i64 a, .int .i64 b] ∧ I64 a ∧ I64 b := by
  have ht := Tryz.underlying48
  obtain ⟨_, _, _, _, hlen, _, _⟩ := DataW.trod_struct ht h
  obtain ⟨n0, h0, w0⟩ := field_int ht h 0 _ rfl cells3 (by rw [cellsRange]; decide) Tryz.underlying3
  obtain ⟨n1, h1, w1⟩ := field_int ht h 1 _ rfl cells3 (by rw [cellsRange]; decide) Tryz.underlying3
  have hl : cs.length = 2 := hlen.trans cellsRange
  match cs, hl with
  | [c0, c1], _ => simp at h0 h1; exact ⟨n0, n1, by rw [h0, h1], w0, w1⟩
set_option maxRecDepth 4000 in
theorem open_frac_ {fuel : Nat} {cs : List Value} {x : DataW H × List MemPlace} (h : DataW.trod enc Tryz.prog w base spare held fuel 45 cs = some x) : ∃ a b : Int, cs = [.int .i64 a, .int .i64 b] ∧ I64 a ∧ I64 b := by
  have ht := Tryz.underlying45
  obtain ⟨_, _, _, _, hlen, _, _⟩ := DataW.trod_struct ht h
  obtain ⟨n0, h0, w0⟩ := field_int ht h 0 _ rfl cells3 (by rw [cellsFrac]; decide) Tryz.underlying3
  obtain ⟨n1, h1, w1⟩ := field_int ht h 1 _ rfl cells3 (by rw [cellsFrac]; decide) Tryz.underlying3
  have hl : cs.length = 2 := hlen.trans cellsFrac
  match cs, hl with
  | [c0, c1], _ => simp at h0 h1; exact ⟨n0, n1, by rw [h0, h1], w0, w1⟩
set_option maxRecDepth 4000 in
theorem open_range (hval : Value.okWide Tryz.prog w r b0 48 v) (hd : DataW.Trod enc Tryz.prog w base spare held 48 v d ps) : ∃ a b : Int, v = .agg (rgC a b) ∧ I64 a ∧ I64 b := by
  obtain ⟨xs, rfl, n, x, h⟩ := open_cells Tryz.underlying48 hval hd
  obtain ⟨a, b, e, wa, wb⟩ := open_range_ h
  exact ⟨a, b, by rw [arr_eq e], wa, wb⟩
set_option maxRecDepth 4000 in
theorem open_frac (hval : Value.okWide Tryz.prog w r b0 45 v) (hd : DataW.Trod enc Tryz.prog w base spare held 45 v d ps) : ∃ a b : Int, v = .agg #[.int .i64 a, .int .i64 b] ∧ I64 a ∧ I64 b := by
  obtain ⟨xs, rfl, n, x, h⟩ := open_cells Tryz.underlying45 hval hd
  obtain ⟨a, b, e, wa, wb⟩ := open_frac_ h
  exact ⟨a, b, by rw [arr_eq e], wa, wb⟩
set_option maxRecDepth 4000 in
theorem open_tip (hval : Value.okWide Tryz.prog w r b0 57 v) (hd : DataW.Trod enc Tryz.prog w base spare held 57 v d ps) : ∃ x : Tip, v = .agg (tipC x) := by
  have ht := Tryz.underlying57
  obtain ⟨xs, rfl, n, x, h⟩ := open_cells ht hval hd
  obtain ⟨_, _, _, _, hlen, _, _⟩ := DataW.trod_struct ht h
  obtain ⟨y0, m0, h0⟩ := field_sub ht h 0 _ rfl
  obtain ⟨a0, b0, e0, _, _⟩ := open_range_ h0
  obtain ⟨y1, m1, h1⟩ := field_sub ht h 1 _ rfl
  obtain ⟨a1, b1, e1, _, _⟩ := open_range_ h1
  obtain ⟨n2, h2, _⟩ := field_int ht h 2 _ rfl cells3 (by rw [cellsTip]; decide) Tryz.underlying3
  have hl : xs.toList.length = 5 := hlen.trans cellsTip
  have e0' : (xs.toList.drop 0).take (Tryz.prog.cellsOf 48) = [.int .i64 a0, .int .i64 b0] := e0
  have e1' : (xs.toList.drop 2).take (Tryz.prog.cellsOf 48) = [.int .i64 a1, .int .i64 b1] := e1
  clear e0 e1
  rw [cellsRange] at e0' e1'
  refine ⟨⟨a0, b0, a1, b1, n2⟩, ?_⟩
  rw [arr_eq (xs := xs) (l := [.int .i64 a0, .int .i64 b0, .int .i64 a1, .int .i64 b1, .int .i64 n2]) ?_]
  match hq : xs.toList, hl with
  | [c0, c1, c2, c3, c4], _ =>
    rw [hq] at e0' e1' h2
    simp at e0' e1' h2
    rw [e0'.1, e0'.2, e1'.1, e1'.2, h2]
set_option maxRecDepth 4000 in
theorem open_rule (hval : Value.okWide Tryz.prog w r b0 62 v) (hd : DataW.Trod enc Tryz.prog w base spare held 62 v d ps) : ∃ x : Ru, v = .agg (ruC x) ∧ I64 x.num ∧ I64 x.den := by
  have ht := Tryz.underlying62
  obtain ⟨xs, rfl, n, x, h⟩ := open_cells ht hval hd
  obtain ⟨_, _, _, _, hlen, _, _⟩ := DataW.trod_struct ht h
  obtain ⟨n0, h0, _⟩ := field_int ht h 0 _ rfl cells3 (by rw [cellsRule]; decide) Tryz.underlying3
  obtain ⟨n1, h1, _⟩ := field_int ht h 1 _ rfl cells3 (by rw [cellsRule]; decide) Tryz.underlying3
  obtain ⟨y2, m2, h2⟩ := field_sub ht h 2 _ rfl
  obtain ⟨a2, b2, e2, wa, wb⟩ := open_frac_ h2
  have hl : xs.toList.length = 4 := hlen.trans cellsRule
  have e2' : (xs.toList.drop 2).take (Tryz.prog.cellsOf 45) = [.int .i64 a2, .int .i64 b2] := e2
  clear e2
  rw [cellsFrac] at e2'
  refine ⟨⟨n0, n1, a2, b2⟩, ?_, wa, wb⟩
  rw [arr_eq (xs := xs) (l := [.int .i64 n0, .int .i64 n1, .int .i64 a2, .int .i64 b2]) ?_]
  match hq : xs.toList, hl with
  | [c0, c1, c2, c3], _ =>
    rw [hq] at h0 h1 e2'
    simp at h0 h1 e2'
    rw [h0, h1, e2'.1, e2'.2]
end
end Go.Proofs.YtidgeagpgllkeaaGreat
