/- Openers of the rows' arguments: the variables that the rows lay, tracks, numbers. Openers of the rows' arguments: joints and bevels. Openers of the rows' arguments: asks, points. Openers of the arguments of the statements: parts, places, numbers. -/
import Derived.Test.YtfgeipapmdhneaaDoorRows
import Derived.WalkKit
import Derived.ProofKit
import Derived.OpenShut
import Derived.Deep.DeepHandedRow
import Derived.Deep.Slices
import Derived.Lib.LaidTab
import Derived.ReadAgain
import Derived.Carry
import Derived.Test.YtfgeipapmdhneaaDoorZsCvT
import Derived.Test.YtfgeipapmdhneaaDoorZsCvM
namespace Go.Proofs.YtfgeipapmdhneaaDoor
open Go.ChangeShapes Go.WideShapes Go.ChangeAt Go.RowKit

section
variable {H : Type} {enc : TypeId × Value → H} {P : Program} {w : World} {base : Nat} {spare : Nat → Bool} {held : Bool}

/-- A field of one cell. -/
theorem field_one {t : TypeId} {fs : Array Field} {fuel : Nat} {cs : List Value} {x : DataW H × List MemPlace} (ht : P.underlying t = some (.struct fs)) (h : DataW.trod enc P w base spare held fuel t cs = some x)
    (i : Nat) (f : Field) (hf : fs[i]? = some f) (hc : P.cellsOf f.type = 1) (hl : f.offset < P.cellsOf t) :
    ∃ v y n, cs[f.offset]? = some v ∧ DataW.trod enc P w base spare held n f.type [v] = some y := by
  obtain ⟨xs, n, _, rfl, hlen, hxs, hg⟩ := DataW.trod_struct ht h
  have h1 := hg i f hf
  have hi : i < xs.length := by rw [hxs]; exact (Array.getElem?_eq_some_iff.1 hf).1
  rw [List.getElem?_eq_getElem hi, hc] at h1
  have hlo : f.offset < cs.length := by omega
  have hd : (cs.drop f.offset).take 1 = [cs[f.offset]] := by
    rw [List.drop_eq_getElem_cons hlo]; rfl
  rw [hd] at h1
  exact ⟨cs[f.offset], xs[i], n, List.getElem?_eq_getElem hlo, h1⟩
theorem field_int {t : TypeId} {fs : Array Field} {fuel : Nat} {cs : List Value} {x : DataW H × List MemPlace} (ht : P.underlying t = some (.struct fs)) (h : DataW.trod enc P w base spare held fuel t cs = some x)
    (i : Nat) (f : Field) (hf : fs[i]? = some f) (hc : P.cellsOf f.type = 1) (hl : f.offset < P.cellsOf t) (he : P.underlying f.type = some (.int .i64)) :
    ∃ n, cs[f.offset]? = some (.int .i64 n) ∧ I64 n := by
  obtain ⟨v, y, n, h1, h2⟩ := field_one ht h i f hf hc hl
  obtain ⟨z, hz, _, hw⟩ := DataW.trod_int he h2
  obtain rfl : v = .int .i64 z := by simpa using hz
  exact ⟨z, h1, bounds_i64 hw⟩
end

theorem ownKnobNone : ownKnob Tryd.prog.godebug = none := by kernel_rfl
theorem cellsTrack : Tryd.prog.cellsOf 23 = 4 := by kernel_rfl
theorem cellsPoint : Tryd.prog.cellsOf 49 = 2 := by kernel_rfl
theorem cells3 : Tryd.prog.cellsOf 3 = 1 := by kernel_rfl

section
variable {H : Type} {enc : TypeId × Value → H} {w : World} {base : Nat} {spare : Nat → Bool} {held : Bool}
set_option maxRecDepth 4000 in
/-- A point that reads as two numbers. -/
theorem open_pair {fuel : Nat} {cs : List Value} {a b : Int} {p : List MemPlace} (h : DataW.trod enc Tryd.prog w base spare held fuel 49 cs = some (.agg [.lit (.int .i64 a), .lit (.int .i64 b)], p)) : cs = [.int .i64 a, .int .i64 b] := by
  have ht := Tryd.underlying49
  obtain ⟨xs, n, _, hx, hlen, hxs, hg⟩ := DataW.trod_struct ht h
  match xs, hxs with
  | [y0, y1], _ =>
    have h0 : DataW.trod enc Tryd.prog w base spare held n 3 ((cs.drop 0).take (Tryd.prog.cellsOf 3)) = some y0 := hg 0 _ rfl
    have h1 : DataW.trod enc Tryd.prog w base spare held n 3 ((cs.drop 1).take (Tryd.prog.cellsOf 3)) = some y1 := hg 1 _ rfl
    rw [cells3] at h0 h1
    obtain ⟨n0, e0, x0, _⟩ := DataW.trod_int Tryd.underlying3 h0
    obtain ⟨n1, e1, x1, _⟩ := DataW.trod_int Tryd.underlying3 h1
    have hl : cs.length = 2 := hlen.trans cellsPoint
    match cs, hl with
    | [c0, c1], _ =>
      simp at e0 e1
      subst e0 e1 x0 x1
      simp at hx
      obtain ⟨⟨rfl, rfl⟩, _⟩ := hx
      rfl
end

theorem begin_named : Tryd.prog.globalNamed "couplant/cover.begin" = some 0 := by kernel_rfl
theorem end_named : Tryd.prog.globalNamed "couplant/cover.end" = some 1 := by kernel_rfl
theorem begin_type : (Tryd.prog.globals[0]?).map (·.type) = some 49 := by kernel_rfl
theorem end_type : (Tryd.prog.globals[1]?).map (·.type) = some 49 := by kernel_rfl

/-- What the rows' list gives. -/
theorem ends_of {W : World} (h : laidMetH Tryd.prog [("couplant/cover.begin", Rows.laid_couplant_cover_begin), ("couplant/cover.end", Rows.laid_couplant_cover_end)] W) : Ends W := by
  have h' : laidMet Tryd.prog [("couplant/cover.begin", Rows.laid_couplant_cover_begin), ("couplant/cover.end", Rows.laid_couplant_cover_end)] W := h
  obtain ⟨ps, ⟨g, t, cs, fuel, p, q, hg, ht, hv, hd, ⟨g', t', cs', fuel', p', q', hg', ht', hv', hd', _, _⟩, _⟩, _⟩ := h'
  obtain rfl := Option.some.inj (begin_named.symm.trans hg)
  obtain rfl := Option.some.inj (begin_type.symm.trans ht)
  obtain rfl := Option.some.inj (end_named.symm.trans hg')
  obtain rfl := Option.some.inj (end_type.symm.trans ht')
  have e1 := open_pair hd
  have e2 := open_pair hd'
  have c := fun i => World.var?_cell begin_named hv i
  have c' := fun i => World.var?_cell end_named hv' i
  have g0 : cs = #[.int .i64 0, .int .i64 1] := by apply Array.ext'; exact e1
  have g1 : cs' = #[.int .i64 1, .int .i64 1] := by apply Array.ext'; exact e2
  exact ⟨by rw [c 0, g0]; rfl, by rw [c 1, g0]; rfl, by rw [c' 0, g1]; rfl, by rw [c' 1, g1]; rfl⟩

section
variable {H : Type} {enc : TypeId × Value → H} {w : World} {r : Reach} {b0 base : Nat} {spare : Nat → Bool} {held : Bool} {v : Value} {d : DataW H} {ps : List MemPlace}
set_option maxRecDepth 4000 in
/-- A track. -/
theorem open_track (hval : Value.okWide Tryd.prog w r b0 23 v) (hd : DataW.Trod enc Tryd.prog w base spare held 23 v d ps) : ∃ t : Tk, v = .agg (tkC t) := by
  have ht := Tryd.underlying23
  obtain ⟨cs, rfl, hcs⟩ := okWide_struct ht hval
  obtain ⟨n, h⟩ := hd
  have hc4 : cs.size = 4 := hcs.trans cellsTrack
  have h' : DataW.trod enc Tryd.prog w base spare held n 23 cs.toList = some (d, ps) := h
  obtain ⟨n0, h0, _⟩ := field_int ht h' 0 _ rfl cells3 (by rw [cellsTrack]; decide) Tryd.underlying3
  obtain ⟨n1, h1, _⟩ := field_int ht h' 1 _ rfl cells3 (by rw [cellsTrack]; decide) Tryd.underlying3
  obtain ⟨n2, h2, _⟩ := field_int ht h' 2 _ rfl cells3 (by rw [cellsTrack]; decide) Tryd.underlying3
  obtain ⟨n3, h3, _⟩ := field_int ht h' 3 _ rfl cells3 (by rw [cellsTrack]; decide) Tryd.underlying3
  refine ⟨⟨n0, n1, n2, n3⟩, ?_⟩
  have hl : cs.toList = [.int .i64 n0, .int .i64 n1, .int .i64 n2, .int .i64 n3] := by
    have hlen : cs.toList.length = 4 := by simpa using hc4
    match hm : cs.toList, hlen with
    | [c0, c1, c2, c3], _ => rw [hm] at h0 h1 h2 h3; simp at h0 h1 h2 h3; rw [h0, h1, h2, h3]
  have : cs = #[.int .i64 n0, .int .i64 n1, .int .i64 n2, .int .i64 n3] := by apply Array.ext'; exact hl
  rw [this]; rfl

set_option maxRecDepth 4000 in
/-- Numbers. -/
theorem open_numbers (hval : Value.okWide Tryd.prog w r b0 24 v) (hd : DataW.Trod enc Tryd.prog w base spare held 24 v d ps) :
    ∃ A zs c, v = .slice A zs.length c ∧ (A = none → c = 0) ∧ Row w w.heap.size 1 A zs.length (intsC zs) ∧ (∀ p ∈ zs, I64 p) ∧ zs.length ≤ c ∧ c ≤ maxLen := by
  have ht := Tryd.underlying24
  obtain ⟨A, len, cap, rfl⟩ := okWide_slice ht hval
  obtain ⟨n, h⟩ := hd
  have h' : DataW.trod enc Tryd.prog w base spare held n 24 [.slice A len cap] = some (d, ps) := h
  rcases open_ints ht Tryd.underlying3 cells3 h' with ⟨h1, _⟩ | ⟨a, len', cap', zs, h1, hb, hl, hm, hz, _, hc, hw⟩
  · simp at h1
    obtain ⟨rfl, rfl, rfl⟩ := h1
    exact ⟨none, [], 0, rfl, fun _ => rfl, Row.nil_, by simp, Nat.le_refl _, Nat.zero_le _⟩
  · simp at h1
    obtain ⟨rfl, rfl, rfl⟩ := h1
    have hlz : len ≤ zs.length := by rw [hz]; split <;> omega
    have hlen : (zs.take len).length = len := by simp; omega
    refine ⟨some a, zs.take len, cap, by rw [hlen], (fun h => by cases h), ?_, ?_, by omega, hm⟩
    · refine ⟨by simp [intsC], fun hpos => ?_⟩
      rw [hlen] at hpos
      have h0 := hc 0 (by omega)
      obtain ⟨g, o, s⟩ := a
      have hs : s = none := by
        cases s with
        | none => rfl
        | some s => unfold Addr.add at h0; simp [World.cell?] at h0; split at h0 <;> simp at h0
      subst hs
      refine ⟨g, o, rfl, ?_, ?_⟩
      · have := World.block_lt_of_cell? _ _ h0
        rwa [block_add] at this
      · intro j u hu
        have hj : j < len := by
          have := (List.getElem?_eq_some_iff.1 hu).1
          simp [intsC] at this; omega
        have hcj := hc j (by omega)
        rw [Addr.add_lit] at hcj
        rw [hcj]
        simp [intsC, hj] at hu
        obtain ⟨z, hz', rfl⟩ := hu
        simp [List.getD, hz']
    · intro p hp
      exact bounds_i64 (hw p (List.mem_of_mem_take hp))
end

theorem laidOut : laidOutB Tryd.prog = true := by kernel_rfl
/-- The arguments read behind a call as before, where below the heap's old size nothing has turned. -/
theorem args_below {H : Type} {enc : TypeId × Value → H} {W W' : World} (hb : Below W.heap.size W W') : ∀ {ts : List TypeId} {vs : List Value} {ds : List (DataW H)} {ps : List MemPlace},
    (∀ t ∈ ts, Tryd.prog.readableRec t = true ∧ t < Tryd.prog.types.size) → (∀ x ∈ ps, x.block < W.heap.size) → DataW.TrodAll enc Tryd.prog W 0 (fun _ => true) true ts vs ds ps → DataW.TrodAll enc Tryd.prog W' 0 (fun b => decide (b < W.heap.size)) true ts vs ds ps
  | [], [], [], _, _, _, h => h
  | [], [], _ :: _, _, _, _, h => h.elim
  | [], _ :: _, _, _, _, _, h => h.elim
  | _ :: _, [], _, _, _, _, h => h.elim
  | _ :: _, _ :: _, [], _, _, _, h => h.elim
  | t :: ts, v :: vs, d :: ds, ps, ht, hlt, h => by
    obtain ⟨p, q, h1, h2, rfl⟩ := h
    exact ⟨p, q, Below.trod laidOut (ht t (by simp)).1 (ht t (by simp)).2 h1 hb (fun x hx => hlt x (by simp [hx])), args_below hb (fun u hu => ht u (by simp [hu])) (fun x hx => hlt x (by simp [hx])) h2, rfl⟩
end Go.Proofs.YtfgeipapmdhneaaDoor

namespace Go.Proofs.YtfgeipapmdhneaaDoor
open Go.ChangeShapes Go.WideShapes Go.ChangeAt Go.RowKit

end Go.Proofs.YtfgeipapmdhneaaDoor

namespace Go.Proofs.YtfgeipapmdhneaaDoor
open Go.ChangeShapes Go.WideShapes Go.ChangeAt Go.RowKit

end Go.Proofs.YtfgeipapmdhneaaDoor

namespace Go.Proofs.YtfgeipapmdhneaaDoor
open Go.ChangeShapes Go.WideShapes Go.ChangeAt Go.RowKit

section
variable {H : Type} {enc : TypeId × Value → H} {w : World} {r : Reach} {b0 base : Nat} {spare : Nat → Bool} {held : Bool} {v : Value} {d : DataW H} {ps : List MemPlace}
set_option maxRecDepth 4000 in
/-- A number. -/
theorem open_number (hval : Value.okWide Tryd.prog w r b0 3 v) (hd : DataW.Trod enc Tryd.prog w base spare held 3 v d ps) : ∃ n : Int, v = .int .i64 n ∧ I64 n := by
  obtain ⟨x, rfl, _, _, wx⟩ := open_int Tryd.underlying3 hval hd
  exact ⟨x, rfl, bounds_i64 wx⟩
end
end Go.Proofs.YtfgeipapmdhneaaDoor
