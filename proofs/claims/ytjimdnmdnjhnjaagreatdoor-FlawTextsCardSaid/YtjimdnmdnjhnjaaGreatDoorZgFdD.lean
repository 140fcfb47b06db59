/- Openers of the arguments of chapter 8's statements: numbers, arrays. Openers of the arguments of chapter 8: ranges, tips, fractions, rules, marks. -/
import Derived.Test.YtjimdnmdnjhnjaaGreatDoorRows
import Derived.WalkKit
import Derived.ProofKit
import Derived.OpenShut
import Derived.JoinedCond
import Derived.ReadAgain
import Derived.Carry
import Derived.WideKeyArr2
import Derived.Deep.Slices
import Derived.Test.YtjimdnmdnjhnjaaGreatDoorZgFaK
import Derived.Test.YtjimdnmdnjhnjaaGreatDoorZgFcP
namespace Go.Proofs.YtjimdnmdnjhnjaaGreatDoor
open Go.ChangeShapes Go.WideShapes Go.ChangeAt Go.RowKit

def I64 (n : Int) : Prop := -9223372036854775808 ≤ n ∧ n ≤ 9223372036854775807
theorem bounds_i64 {n : Int} (h : (Lit.int .i64 n).wf = true) : I64 n := by
  simp only [Lit.wf, Bool.and_eq_true, decide_eq_true_eq] at h
  have a : IntKind.i64.min = -9223372036854775808 := by decide
  have b : IntKind.i64.max = 9223372036854775807 := by decide
  unfold I64; omega
section
variable {H : Type} {enc : TypeId × Value → H} {P : Program} {w : World} {base : Nat} {spare : Nat → Bool} {held : Bool}

/-- A field of one cell. -/
theorem field_one {t : TypeId} {fs : Array Field} {fuel : Nat} {cs : List Value} {x : DataW H × List MemPlace} (ht : P.underlying t = some (.struct fs)) (h : DataW.trod enc P w base spare held fuel t cs = some x)
    (i : Nat) (f : Field) (hf : fs[i]? = some f) (hc : P.cellsOf f.type = 1) (hl : f.offset < P.cellsOf t) :
    ∃ v y n, cs[f.offset]? = some v ∧ DataW.trod enc P w base spare held n f.type [v] = some y := by
  obtain ⟨xs, n, _, rfl, hlen, hxs, hg⟩ := DataW.trod_struct ht h
  have h1 := hg i f hf
  have hi : i < xs.length := by rw [hxs]; exact (Array.getElem?_eq_some_iff.1 hf).1
  rw [List.getElem?_eq_getElem hi, hc] at h1
  have hlo : f.offset < cs.length := by omega
  have hd : (cs.drop f.offset).take 1 = [cs[f.offset]] := by
    rw [List.drop_eq_getElem_cons hlo]; rfl
  rw [hd] at h1
  exact ⟨cs[f.offset], xs[i], n, List.getElem?_eq_getElem hlo, h1⟩
theorem field_int {t : TypeId} {fs : Array Field} {fuel : Nat} {cs : List Value} {x : DataW H × List MemPlace} (ht : P.underlying t = some (.struct fs)) (h : DataW.trod enc P w base spare held fuel t cs = some x)
    (i : Nat) (f : Field) (hf : fs[i]? = some f) (hc : P.cellsOf f.type = 1) (hl : f.offset < P.cellsOf t) (he : P.underlying f.type = some (.int .i64)) :
    ∃ n, cs[f.offset]? = some (.int .i64 n) ∧ I64 n := by
  obtain ⟨v, y, n, h1, h2⟩ := field_one ht h i f hf hc hl
  obtain ⟨z, hz, _, hw⟩ := DataW.trod_int he h2
  obtain rfl : v = .int .i64 z := by simpa using hz
  exact ⟨z, h1, bounds_i64 hw⟩
/-- A field of several cells. -/
theorem field_sub {t : TypeId} {fs : Array Field} {fuel : Nat} {cs : List Value} {x : DataW H × List MemPlace} (ht : P.underlying t = some (.struct fs)) (h : DataW.trod enc P w base spare held fuel t cs = some x)
    (i : Nat) (f : Field) (hf : fs[i]? = some f) :
    ∃ y n, DataW.trod enc P w base spare held n f.type ((cs.drop f.offset).take (P.cellsOf f.type)) = some y := by
  obtain ⟨xs, n, _, rfl, hlen, hxs, hg⟩ := DataW.trod_struct ht h
  have hi : i < xs.length := by rw [hxs]; exact (Array.getElem?_eq_some_iff.1 hf).1
  have h1 := hg i f hf
  rw [List.getElem?_eq_getElem hi] at h1
  exact ⟨xs[i], n, h1⟩
end

theorem cells3 : Tryz.prog.cellsOf 3 = 1 := by kernel_rfl
section
variable {H : Type} {enc : TypeId × Value → H} {w : World} {base b0 : Nat} {spare : Nat → Bool} {held : Bool} {r : Reach} {v : Value} {d : DataW H} {ps : List MemPlace}
set_option maxRecDepth 4000 in
theorem open_number (hval : Value.okWide Tryz.prog w r b0 3 v) (hd : DataW.Trod enc Tryz.prog w base spare held 3 v d ps) : ∃ n : Int, v = .int .i64 n ∧ I64 n := by
  obtain ⟨x, rfl, _, _, wx⟩ := open_int Tryz.underlying3 hval hd
  exact ⟨x, rfl, bounds_i64 wx⟩
end

theorem laidOut : laidOutB Tryz.prog = true := by kernel_rfl
/-- The arguments read behind a call as before, where below the heap's old size nothing has turned. -/
theorem args_below {H : Type} {enc : TypeId × Value → H} {W W' : World} (hb : Below W.heap.size W W') : ∀ {ts : List TypeId} {vs : List Value} {ds : List (DataW H)} {ps : List MemPlace},
    (∀ t ∈ ts, Tryz.prog.readableRec t = true ∧ t < Tryz.prog.types.size) → (∀ x ∈ ps, x.block < W.heap.size) → DataW.TrodAll enc Tryz.prog W 0 (fun _ => true) true ts vs ds ps → DataW.TrodAll enc Tryz.prog W' 0 (fun b => decide (b < W.heap.size)) true ts vs ds ps
  | [], [], [], _, _, _, h => h
  | [], [], _ :: _, _, _, _, h => h.elim
  | [], _ :: _, _, _, _, _, h => h.elim
  | _ :: _, [], _, _, _, _, h => h.elim
  | _ :: _, _ :: _, [], _, _, _, h => h.elim
  | t :: ts, v :: vs, d :: ds, ps, ht, hlt, h => by
    obtain ⟨p, q, h1, h2, rfl⟩ := h
    exact ⟨p, q, Below.trod laidOut (ht t (by simp)).1 (ht t (by simp)).2 h1 hb (fun x hx => hlt x (by simp [hx])), args_below hb (fun u hu => ht u (by simp [hu])) (fun x hx => hlt x (by simp [hx])) h2, rfl⟩
end Go.Proofs.YtjimdnmdnjhnjaaGreatDoor

namespace Go.Proofs.YtjimdnmdnjhnjaaGreatDoor
open Go.ChangeShapes Go.WideShapes Go.ChangeAt Go.RowKit

theorem cellsRange : Tryz.prog.cellsOf 23 = 2 := by kernel_rfl
theorem cellsMark : Tryz.prog.cellsOf 25 = 6 := by kernel_rfl
theorem cellsStr : Tryz.prog.cellsOf 9 = 1 := by kernel_rfl

section
variable {H : Type} {enc : TypeId × Value → H} {w : World} {base b0 : Nat} {spare : Nat → Bool} {held : Bool} {r : Reach} {v : Value} {d : DataW H} {ps : List MemPlace}
set_option maxRecDepth 4000 in
/-- A struct's cells. -/
theorem open_cells {t : TypeId} {fs : Array Field} (ht : Tryz.prog.underlying t = some (.struct fs)) (hval : Value.okWide Tryz.prog w r b0 t v) (hd : DataW.Trod enc Tryz.prog w base spare held t v d ps) :
    ∃ xs : Array Value, v = .agg xs ∧ ∃ fuel x, DataW.trod enc Tryz.prog w base spare held fuel t xs.toList = some x := by
  obtain ⟨xs, rfl, _⟩ : ∃ xs : Array Value, v = .agg xs ∧ xs.size = Tryz.prog.cellsOf t := by
    simp only [Value.okWide, ht] at hval
    obtain ⟨cs, h1, h2, _⟩ := hval
    exact ⟨cs, h1, h2⟩
  obtain ⟨fuel, hf⟩ := hd
  exact ⟨xs, rfl, fuel, _, hf⟩
theorem arr_eq {xs : Array Value} {l : List Value} (h : xs.toList = l) : xs = l.toArray := by apply Array.ext'; simpa using h
set_option maxRecDepth 4000 in
theorem open_range_ {fuel : Nat} {cs : List Value} {x : DataW H × List MemPlace} (h : DataW.trod enc Tryz.prog w base spare held fuel 23 cs = some x) : ∃ a b : Int, cs = [.int .i64 a, .int .i64 b] ∧ I64 a ∧ I64 b := by
  have ht := Tryz.underlying23
  obtain ⟨_, _, _, _, hlen, _, _⟩ := DataW.trod_struct ht h
  obtain ⟨n0, h0, w0⟩ := field_int ht h 0 _ rfl cells3 (by rw [cellsRange]; decide) Tryz.underlying3
  obtain ⟨n1, h1, w1⟩ := field_int ht h 1 _ rfl cells3 (by rw [cellsRange]; decide) Tryz.underlying3
  have hl : cs.length = 2 := hlen.trans cellsRange
  match cs, hl with
  | [c0, c1], _ => simp at h0 h1; exact ⟨n0, n1, by rw [h0, h1], w0, w1⟩
end
end Go.Proofs.YtjimdnmdnjhnjaaGreatDoor
