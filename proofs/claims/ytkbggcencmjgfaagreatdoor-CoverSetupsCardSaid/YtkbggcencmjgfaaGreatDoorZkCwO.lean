/- Openers of the rows' arguments: the variables that the rows lay, tracks, numbers. Openers of the rows' arguments: joints and bevels. Openers of the rows' arguments: asks, points. Openers of the arguments of the statements: parts, places, numbers. -/
import Derived.Test.YtkbggcencmjgfaaGreatDoorRows
import Derived.WalkKit
import Derived.ProofKit
import Derived.OpenShut
import Derived.Deep.DeepHandedRow
import Derived.Deep.Slices
import Derived.Lib.LaidTab
import Derived.ReadAgain
import Derived.Carry
import Derived.Test.YtkbggcencmjgfaaGreatDoorZkCvT
import Derived.Test.YtkbggcencmjgfaaGreatDoorZkCvZ
namespace Go.Proofs.YtkbggcencmjgfaaGreatDoor
open Go.ChangeShapes Go.WideShapes Go.ChangeAt Go.RowKit

section
variable {H : Type} {enc : TypeId × Value → H} {P : Program} {w : World} {base : Nat} {spare : Nat → Bool} {held : Bool}

/-- A field of one cell. -/
theorem field_one {t : TypeId} {fs : Array Field} {fuel : Nat} {cs : List Value} {x : DataW H × List MemPlace} (ht : P.underlying t = some (.struct fs)) (h : DataW.trod enc P w base spare held fuel t cs = some x)
    (i : Nat) (f : Field) (hf : fs[i]? = some f) (hc : P.cellsOf f.type = 1) (hl : f.offset < P.cellsOf t) :
    ∃ v y n, cs[f.offset]? = some v ∧ DataW.trod enc P w base spare held n f.type [v] = some y := by
  obtain ⟨xs, n, _, rfl, hlen, hxs, hg⟩ := DataW.trod_struct ht h
  have h1 := hg i f hf
  have hi : i < xs.length := by rw [hxs]; exact (Array.getElem?_eq_some_iff.1 hf).1
  rw [List.getElem?_eq_getElem hi, hc] at h1
  have hlo : f.offset < cs.length := by omega
  have hd : (cs.drop f.offset).take 1 = [cs[f.offset]] := by
    rw [List.drop_eq_getElem_cons hlo]; rfl
  rw [hd] at h1
  exact ⟨cs[f.offset], xs[i], n, List.getElem?_eq_getElem hlo, h1⟩
theorem field_int {t : TypeId} {fs : Array Field} {fuel : Nat} {cs : List Value} {x : DataW H × List MemPlace} (ht : P.underlying t = some (.struct fs)) (h : DataW.trod enc P w base spare held fuel t cs = some x)
    (i : Nat) (f : Field) (hf : fs[i]? = some f) (hc : P.cellsOf f.type = 1) (hl : f.offset < P.cellsOf t) (he : P.underlying f.type = some (.int .i64)) :
    ∃ n, cs[f.offset]? = some (.int .i64 n) ∧ I64 n := by
  obtain ⟨v, y, n, h1, h2⟩ := field_one ht h i f hf hc hl
  obtain ⟨z, hz, _, hw⟩ := DataW.trod_int he h2
  obtain rfl : v = .int .i64 z := by simpa using hz
  exact ⟨z, h1, bounds_i64 hw⟩
/-- A field of several cells. -/
theorem field_sub {t : TypeId} {fs : Array Field} {fuel : Nat} {cs : List Value} {x : DataW H × List MemPlace} (ht : P.underlying t = some (.struct fs)) (h : DataW.trod enc P w base spare held fuel t cs = some x)
    (i : Nat) (f : Field) (hf : fs[i]? = some f) :
    ∃ y n, DataW.trod enc P w base spare held n f.type ((cs.drop f.offset).take (P.cellsOf f.type)) = some y := by
  obtain ⟨xs, n, _, rfl, hlen, hxs, hg⟩ := DataW.trod_struct ht h
  have hi : i < xs.length := by rw [hxs]; exact (Array.getElem?_eq_some_iff.1 hf).1
  have h1 := hg i f hf
  rw [List.getElem?_eq_getElem hi] at h1
  exact ⟨xs[i], n, h1⟩
end

theorem ownKnobNone : ownKnob Tryz.prog.godebug = none := by kernel_rfl
theorem cellsPoint : Tryz.prog.cellsOf 54 = 2 := by kernel_rfl
theorem cells3 : Tryz.prog.cellsOf 3 = 1 := by kernel_rfl

section
variable {H : Type} {enc : TypeId × Value → H} {w : World} {base : Nat} {spare : Nat → Bool} {held : Bool}
set_option maxRecDepth 4000 in
/-- A point that reads as two numbers. -/
theorem open_pair {fuel : Nat} {cs : List Value} {a b : Int} {p : List MemPlace} (h : DataW.trod enc Tryz.prog w base spare held fuel 54 cs = some (.agg [.lit (.int .i64 a), .lit (.int .i64 b)], p)) : cs = [.int .i64 a, .int .i64 b] := by
  have ht := Tryz.underlying54
  obtain ⟨xs, n, _, hx, hlen, hxs, hg⟩ := DataW.trod_struct ht h
  match xs, hxs with
  | [y0, y1], _ =>
    have h0 : DataW.trod enc Tryz.prog w base spare held n 3 ((cs.drop 0).take (Tryz.prog.cellsOf 3)) = some y0 := hg 0 _ rfl
    have h1 : DataW.trod enc Tryz.prog w base spare held n 3 ((cs.drop 1).take (Tryz.prog.cellsOf 3)) = some y1 := hg 1 _ rfl
    rw [cells3] at h0 h1
    obtain ⟨n0, e0, x0, _⟩ := DataW.trod_int Tryz.underlying3 h0
    obtain ⟨n1, e1, x1, _⟩ := DataW.trod_int Tryz.underlying3 h1
    have hl : cs.length = 2 := hlen.trans cellsPoint
    match cs, hl with
    | [c0, c1], _ =>
      simp at e0 e1
      subst e0 e1 x0 x1
      simp at hx
      obtain ⟨⟨rfl, rfl⟩, _⟩ := hx
      rfl
end

theorem begin_named : Tryz.prog.globalNamed "couplant/cover.begin" = some 0 := by kernel_rfl
theorem end_named : Tryz.prog.globalNamed "couplant/cover.end" = some 1 := by kernel_rfl
theorem begin_type : (Tryz.prog.globals[0]?).map (·.type) = some 54 := by kernel_rfl
theorem end_type : (Tryz.prog.globals[1]?).map (·.type) = some 54 := by kernel_rfl

/-- What the rows' list gives. -/
theorem ends_of {W : World} (h : laidMetH Tryz.prog [("couplant/cover.begin", Rows.laid_couplant_cover_begin), ("couplant/cover.end", Rows.laid_couplant_cover_end)] W) : Ends W := by
  have h' : laidMet Tryz.prog [("couplant/cover.begin", Rows.laid_couplant_cover_begin), ("couplant/cover.end", Rows.laid_couplant_cover_end)] W := h
  obtain ⟨ps, ⟨g, t, cs, fuel, p, q, hg, ht, hv, hd, ⟨g', t', cs', fuel', p', q', hg', ht', hv', hd', _, _⟩, _⟩, _⟩ := h'
  obtain rfl := Option.some.inj (begin_named.symm.trans hg)
  obtain rfl := Option.some.inj (begin_type.symm.trans ht)
  obtain rfl := Option.some.inj (end_named.symm.trans hg')
  obtain rfl := Option.some.inj (end_type.symm.trans ht')
  have e1 := open_pair hd
  have e2 := open_pair hd'
  have c := fun i => World.var?_cell begin_named hv i
  have c' := fun i => World.var?_cell end_named hv' i
  have g0 : cs = #[.int .i64 0, .int .i64 1] := by apply Array.ext'; exact e1
  have g1 : cs' = #[.int .i64 1, .int .i64 1] := by apply Array.ext'; exact e2
  exact ⟨by rw [c 0, g0]; rfl, by rw [c 1, g0]; rfl, by rw [c' 0, g1]; rfl, by rw [c' 1, g1]; rfl⟩

theorem laidOut : laidOutB Tryz.prog = true := by kernel_rfl
/-- The arguments read behind a call as before, where below the heap's old size nothing has turned. -/
theorem args_below {H : Type} {enc : TypeId × Value → H} {W W' : World} (hb : Below W.heap.size W W') : ∀ {ts : List TypeId} {vs : List Value} {ds : List (DataW H)} {ps : List MemPlace},
    (∀ t ∈ ts, Tryz.prog.readableRec t = true ∧ t < Tryz.prog.types.size) → (∀ x ∈ ps, x.block < W.heap.size) → DataW.TrodAll enc Tryz.prog W 0 (fun _ => true) true ts vs ds ps → DataW.TrodAll enc Tryz.prog W' 0 (fun b => decide (b < W.heap.size)) true ts vs ds ps
  | [], [], [], _, _, _, h => h
  | [], [], _ :: _, _, _, _, h => h.elim
  | [], _ :: _, _, _, _, _, h => h.elim
  | _ :: _, [], _, _, _, _, h => h.elim
  | _ :: _, _ :: _, [], _, _, _, h => h.elim
  | t :: ts, v :: vs, d :: ds, ps, ht, hlt, h => by
    obtain ⟨p, q, h1, h2, rfl⟩ := h
    exact ⟨p, q, Below.trod laidOut (ht t (by simp)).1 (ht t (by simp)).2 h1 hb (fun x hx => hlt x (by simp [hx])), args_below hb (fun u hu => ht u (by simp [hu])) (fun x hx => hlt x (by simp [hx])) h2, rfl⟩
end Go.Proofs.YtkbggcencmjgfaaGreatDoor

namespace Go.Proofs.YtkbggcencmjgfaaGreatDoor
open Go.ChangeShapes Go.WideShapes Go.ChangeAt Go.RowKit

theorem cellsStr : Tryz.prog.cellsOf 9 = 1 := by kernel_rfl
theorem cellsFrac : Tryz.prog.cellsOf 23 = 2 := by kernel_rfl

section
variable {H : Type} {enc : TypeId × Value → H} {w : World} {base : Nat} {spare : Nat → Bool} {held : Bool}
set_option maxRecDepth 4000 in
theorem open_frac {fuel : Nat} {cs : List Value} {x : DataW H × List MemPlace} (h : DataW.trod enc Tryz.prog w base spare held fuel 23 cs = some x) : ∃ a b : Int, cs = [.int .i64 a, .int .i64 b] ∧ I64 a ∧ I64 b := by
  have ht := Tryz.underlying23
  obtain ⟨_, _, _, _, hlen, _, _⟩ := DataW.trod_struct ht h
  obtain ⟨n0, h0, w0⟩ := field_int ht h 0 _ rfl cells3 (by rw [cellsFrac]; decide) Tryz.underlying3
  obtain ⟨n1, h1, w1⟩ := field_int ht h 1 _ rfl cells3 (by rw [cellsFrac]; decide) Tryz.underlying3
  have hl : cs.length = 2 := hlen.trans cellsFrac
  match cs, hl with
  | [c0, c1], _ => simp at h0 h1; exact ⟨n0, n1, by rw [h0, h1], w0, w1⟩
end

end Go.Proofs.YtkbggcencmjgfaaGreatDoor

namespace Go.Proofs.YtkbggcencmjgfaaGreatDoor
open Go.ChangeShapes Go.WideShapes Go.ChangeAt Go.RowKit

theorem cellsSetup : Tryz.prog.cellsOf 25 = 10 := by kernel_rfl
theorem cellsAsk : Tryz.prog.cellsOf 62 = 11 := by kernel_rfl

section
variable {H : Type} {enc : TypeId × Value → H} {w : World} {base : Nat} {spare : Nat → Bool} {held : Bool}
set_option maxRecDepth 4000 in
theorem open_setup_ {fuel : Nat} {cs : List Value} {x : DataW H × List MemPlace} (h : DataW.trod enc Tryz.prog w base spare held fuel 25 cs = some x) :
    ∃ (sn : ByteArray) (s : Su), cs = [.string sn, .int .i64 s.at_, .int .i64 s.side, .int .i64 s.legs, .int .i64 s.ln, .int .i64 s.ld, .int .i64 s.mn, .int .i64 s.md, .int .i64 s.tn, .int .i64 s.td] ∧ s.wf := by
  have ht := Tryz.underlying25
  obtain ⟨_, _, _, _, hlen, _, _⟩ := DataW.trod_struct ht h
  obtain ⟨v, y, m, h0, h0'⟩ := field_one ht h 0 _ rfl cellsStr (by rw [cellsSetup]; decide)
  obtain ⟨sn, hs, _, _⟩ := DataW.trod_string Tryz.underlying9 h0'
  obtain ⟨n1, h1, w1⟩ := field_int ht h 1 _ rfl cells3 (by rw [cellsSetup]; decide) Tryz.underlying3
  obtain ⟨n2, h2, w2⟩ := field_int ht h 2 _ rfl cells3 (by rw [cellsSetup]; decide) Tryz.underlying3
  obtain ⟨n3, h3, w3⟩ := field_int ht h 3 _ rfl cells3 (by rw [cellsSetup]; decide) Tryz.underlying3
  obtain ⟨y4, m4, h4⟩ := field_sub ht h 4 _ rfl
  obtain ⟨a4, b4, e4, u4, v4⟩ := open_frac h4
  obtain ⟨y5, m5, h5⟩ := field_sub ht h 5 _ rfl
  obtain ⟨a5, b5, e5, u5, v5⟩ := open_frac h5
  obtain ⟨y6, m6, h6⟩ := field_sub ht h 6 _ rfl
  obtain ⟨a6, b6, e6, u6, v6⟩ := open_frac h6
  have hl : cs.length = 10 := hlen.trans cellsSetup
  match cs, hl with
  | [c0, c1, c2, c3, c4, c5, c6, c7, c8, c9], _ =>
    have e4' : (([c0, c1, c2, c3, c4, c5, c6, c7, c8, c9] : List Value).drop 4).take (Tryz.prog.cellsOf 23) = [.int .i64 a4, .int .i64 b4] := e4
    have e5' : (([c0, c1, c2, c3, c4, c5, c6, c7, c8, c9] : List Value).drop 6).take (Tryz.prog.cellsOf 23) = [.int .i64 a5, .int .i64 b5] := e5
    have e6' : (([c0, c1, c2, c3, c4, c5, c6, c7, c8, c9] : List Value).drop 8).take (Tryz.prog.cellsOf 23) = [.int .i64 a6, .int .i64 b6] := e6
    clear e4 e5 e6
    rw [cellsFrac] at e4' e5' e6'
    simp at e4' e5' e6' h0 h1 h2 h3 hs
    exact ⟨sn, ⟨n1, n2, n3, a4, b4, a5, b5, a6, b6⟩, by rw [h0, hs, h1, h2, h3, e4'.1, e4'.2, e5'.1, e5'.2, e6'.1, e6'.2], ⟨w1, w2, w3, u4, v4, u5, v5, u6, v6⟩⟩
end

section
variable {H : Type} {enc : TypeId × Value → H} {w : World} {r : Reach} {b0 base : Nat} {spare : Nat → Bool} {held : Bool} {v : Value} {d : DataW H} {ps : List MemPlace}
set_option maxRecDepth 4000 in
/-- A face and a set-up. -/
theorem open_ask (hval : Value.okWide Tryz.prog w r b0 62 v) (hd : DataW.Trod enc Tryz.prog w base spare held 62 v d ps) :
    ∃ (face : Int) (sn : ByteArray) (s : Su), v = .agg (asC face sn s) ∧ I64 face ∧ s.wf := by
  have ht := Tryz.underlying62
  obtain ⟨cs, rfl, hcs⟩ := okWide_struct ht hval
  obtain ⟨n, h⟩ := hd
  have hc : cs.toList.length = 11 := by simpa using hcs.trans cellsAsk
  have h' : DataW.trod enc Tryz.prog w base spare held n 62 cs.toList = some (d, ps) := h
  obtain ⟨n0, h0, w0⟩ := field_int ht h' 0 _ rfl cells3 (by rw [cellsAsk]; decide) Tryz.underlying3
  obtain ⟨y1, m1, h1⟩ := field_sub ht h' 1 _ rfl
  obtain ⟨sn, s, e1, ws⟩ := open_setup_ h1
  refine ⟨n0, sn, s, ?_, w0, ws⟩
  have e1' : (cs.toList.drop 1).take (Tryz.prog.cellsOf 25) = _ := e1
  clear e1
  rw [cellsSetup] at e1'
  have hl : cs.toList = (asC n0 sn s).toList := by
    match hq : cs.toList, hc with
    | [c0, c1, c2, c3, c4, c5, c6, c7, c8, c9, c10], _ =>
      rw [hq] at h0 e1'
      simp at h0 e1'
      simp [asC, h0, e1']
  have : cs = asC n0 sn s := by apply Array.ext'; exact hl
  rw [this]
end
end Go.Proofs.YtkbggcencmjgfaaGreatDoor

namespace Go.Proofs.YtkbggcencmjgfaaGreatDoor
open Go.ChangeShapes Go.WideShapes Go.ChangeAt Go.RowKit

section
variable {H : Type} {enc : TypeId × Value → H} {w : World} {r : Reach} {b0 base : Nat} {spare : Nat → Bool} {held : Bool} {v : Value} {d : DataW H} {ps : List MemPlace}
set_option maxRecDepth 4000 in
/-- A number. -/
theorem open_number (hval : Value.okWide Tryz.prog w r b0 3 v) (hd : DataW.Trod enc Tryz.prog w base spare held 3 v d ps) : ∃ n : Int, v = .int .i64 n ∧ I64 n := by
  obtain ⟨x, rfl, _, _, wx⟩ := open_int Tryz.underlying3 hval hd
  exact ⟨x, rfl, bounds_i64 wx⟩
end
end Go.Proofs.YtkbggcencmjgfaaGreatDoor
