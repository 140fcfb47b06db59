/- Openers of the rows' arguments: the variables that the rows lay, tracks, numbers. Openers of the rows' arguments: joints and bevels. Openers of the rows' arguments: asks, points. Openers of the arguments of the statements: parts, places, numbers. -/
import Derived.Test.YtaekcfancfoccaaGreatDoorRows
import Derived.WalkKit
import Derived.ProofKit
import Derived.OpenShut
import Derived.Deep.DeepHandedRow
import Derived.Deep.Slices
import Derived.Lib.LaidTab
import Derived.ReadAgain
import Derived.Carry
import Derived.Test.YtaekcfancfoccaaGreatDoorZmZkCvT
import Derived.Test.YtaekcfancfoccaaGreatDoorZmZkCvZ
namespace Go.Proofs.YtaekcfancfoccaaGreatDoor
open Go.ChangeShapes Go.WideShapes Go.ChangeAt Go.RowKit

section
variable {H : Type} {enc : TypeId × Value → H} {P : Program} {w : World} {base : Nat} {spare : Nat → Bool} {held : Bool}

theorem field_one {t : TypeId} {fs : Array Field} {fuel : Nat} {cs : List Value} {x : DataW H × List MemPlace} (ht : P.underlying t = some (.struct fs)) (h : DataW.trod enc P w base spare held fuel t cs = some x)
    (i : Nat) (f : Field) (hf : fs[i]? = some f) (hc : P.cellsOf f.type = 1) (hl : f.offset < P.cellsOf t) :
    ∃ v y n, cs[f.offset]? = some v ∧ DataW.trod enc P w base spare held n f.type [v] = some y := by
  obtain ⟨xs, n, _, rfl, hlen, hxs, hg⟩ := DataW.trod_struct ht h
  have h1 := hg i f hf
  have hi : i < xs.length := by rw [hxs]; exact (Array.getElem?_eq_some_iff.1 hf).1
  rw [List.getElem?_eq_getElem hi, hc] at h1
  have hlo : f.offset < cs.length := by omega
  have hd : (cs.drop f.offset).take 1 = [cs[f.offset]] := by
    rw [List.drop_eq_getElem_cons hlo]; rfl
  rw [hd] at h1
  exact ⟨cs[f.offset], xs[i], n, List.getElem?_eq_getElem hlo, h1⟩
theorem field_int {t : TypeId} {fs : Array Field} {fuel : Nat} {cs : List Value} {x : DataW H × List MemPlace} (ht : P.underlying t = some (.struct fs)) (h : DataW.trod enc P w base spare held fuel t cs = some x)
    (i : Nat) (f : Field) (hf : fs[i]? = some f) (hc : P.cellsOf f.type = 1) (hl : f.offset < P.cellsOf t) (he : P.underlying f.type = some (.int .i64)) :
    ∃ n, cs[f.offset]? = some (.int .i64 n) ∧ I64 n := by
  obtain ⟨v, y, n, h1, h2⟩ := field_one ht h i f hf hc hl
  obtain ⟨z, hz, _, hw⟩ := DataW.trod_int he h2
  obtain rfl : v = .int .i64 z := by simpa using hz
  exact ⟨z, h1, bounds_i64 hw⟩
theorem field_sub {t : TypeId} {fs : Array Field} {fuel : Nat} {cs : List Value} {x : DataW H × List MemPlace} (ht : P.underlying t = some (.struct fs)) (h : DataW.trod enc P w base spare held fuel t cs = some x)
    (i : Nat) (f : Field) (hf : fs[i]? = some f) :
    ∃ y n, DataW.trod enc P w base spare held n f.type ((cs.drop f.offset).take (P.cellsOf f.type)) = some y := by
  obtain ⟨xs, n, _, rfl, hlen, hxs, hg⟩ := DataW.trod_struct ht h
  have hi : i < xs.length := by rw [hxs]; exact (Array.getElem?_eq_some_iff.1 hf).1
  have h1 := hg i f hf
  rw [List.getElem?_eq_getElem hi] at h1
  exact ⟨xs[i], n, h1⟩
end

theorem ownKnobNone : ownKnob Tryz.prog.godebug = none := by kernel_rfl
theorem cellsPoint : Tryz.prog.cellsOf 54 = 2 := by kernel_rfl
theorem cells3 : Tryz.prog.cellsOf 3 = 1 := by kernel_rfl

section
variable {H : Type} {enc : TypeId × Value → H} {w : World} {base : Nat} {spare : Nat → Bool} {held : Bool}
set_option maxRecDepth 4000 in
theorem open_pair {fuel : Nat} {cs : List Value} {a b : Int} {p : List MemPlace} (h : DataW.trod enc Tryz.prog w base spare held fuel 54 cs = some (.agg [.lit (.int .i64 a), .lit (.int .i64 b)], p)) : cs = [.int .i64 a, .int .i64 b] := by
  have ht := Tryz.underlying54
  obtain ⟨xs, n, _, hx, hlen, hxs, hg⟩ := DataW.trod_struct ht h
  match xs, hxs with
  | [y0, y1], _ =>
    have h0 : DataW.trod enc Tryz.prog w base spare held n 3 ((cs.drop 0).take (Tryz.prog.cellsOf 3)) = some y0 := hg 0 _ rfl
    have h1 : DataW.trod enc Tryz.prog w base spare held n 3 ((cs.drop 1).take (Tryz.prog.cellsOf 3)) = some y1 := hg 1 _ rfl
    rw [cells3] at h0 h1
    obtain ⟨n0, e0, x0, _⟩ := DataW.trod_int Tryz.underlying3 h0
    obtain ⟨n1, e1, x1, _⟩ := DataW.trod_int Tryz.underlying3 h1
    have hl : cs.length = 2 := hlen.trans cellsPoint
    match cs, hl with
    | [c0, c1], _ =>
      simp at e0 e1
      subst e0 e1 x0 x1
      simp at hx
      obtain ⟨⟨rfl, rfl⟩, _⟩ := hx
      rfl
end

theorem begin_named : Tryz.prog.globalNamed "couplant/cover.begin" = some 0 := by kernel_rfl
theorem end_named : Tryz.prog.globalNamed "couplant/cover.end" = some 1 := by kernel_rfl
theorem begin_type : (Tryz.prog.globals[0]?).map (·.type) = some 54 := by kernel_rfl
theorem end_type : (Tryz.prog.globals[1]?).map (·.type) = some 54 := by kernel_rfl

theorem ends_of {W : World} (h : laidMetH Tryz.prog [("couplant/cover.begin", Rows.laid_couplant_cover_begin), ("couplant/cover.end", Rows.laid_couplant_cover_end)] W) : Ends W := by
  have h' : laidMet Tryz.prog [("couplant/cover.begin", Rows.laid_couplant_cover_begin), ("couplant/cover.end", Rows.laid_couplant_cover_end)] W := h
  obtain ⟨ps, ⟨g, t, cs, fuel, p, q, hg, ht, hv, hd, ⟨g', t', cs', fuel', p', q', hg', ht', hv', hd', _, _⟩, _⟩, _⟩ := h'
  obtain rfl := Option.some.inj (begin_named.symm.trans hg)
  obtain rfl := Option.some.inj (begin_type.symm.trans ht)
  obtain rfl := Option.some.inj (end_named.symm.trans hg')
  obtain rfl := Option.some.inj (end_type.symm.trans ht')
  have e1 := open_pair hd
  have e2 := open_pair hd'
  have c := fun i => World.var?_cell begin_named hv i
  have c' := fun i => World.var?_cell end_named hv' i
  have g0 : cs = #[.int .i64 0, .int .i64 1] := by apply Array.ext'; exact e1
  have g1 : cs' = #[.int .i64 1, .int .i64 1] := by apply Array.ext'; exact e2
  exact ⟨by rw [c 0, g0]; rfl, by rw [c 1, g0]; rfl, by rw [c' 0, g1]; rfl, by rw [c' 1, g1]; rfl⟩

theorem laidOut : laidOutB Tryz.prog = true := by kernel_rfl
theorem args_below {H : Type} {enc : TypeId × Value → H} {W W' : World} (hb : Below W.heap.size W W') : ∀ {ts : List TypeId} {vs : List Value} {ds : List (DataW H)} {ps : List MemPlace},
    (∀ t ∈ ts, Tryz.prog.readableRec t = true ∧ t < Tryz.prog.types.size) → (∀ x ∈ ps, x.block < W.heap.size) → DataW.TrodAll enc Tryz.prog W 0 (fun _ => true) true ts vs ds ps → DataW.TrodAll enc Tryz.prog W' 0 (fun b => decide (b < W.heap.size)) true ts vs ds ps
  | [], [], [], _, _, _, h => h
  | [], [], _ :: _, _, _, _, h => h.elim
  | [], _ :: _, _, _, _, _, h => h.elim
  | _ :: _, [], _, _, _, _, h => h.elim
  | _ :: _, _ :: _, [], _, _, _, h => h.elim
  | t :: ts, v :: vs, d :: ds, ps, ht, hlt, h => by
    obtain ⟨p, q, h1, h2, rfl⟩ := h
    exact ⟨p, q, Below.trod laidOut (ht t (by simp)).1 (ht t (by simp)).2 h1 hb (fun x hx => hlt x (by simp [hx])), args_below hb (fun u hu => ht u (by simp [hu])) (fun x hx => hlt x (by simp [hx])) h2, rfl⟩
end Go.Proofs.YtaekcfancfoccaaGreatDoor

namespace Go.Proofs.YtaekcfancfoccaaGreatDoor
open Go.ChangeShapes Go.WideShapes Go.ChangeAt Go.RowKit

theorem cellsStr : Tryz.prog.cellsOf 9 = 1 := by kernel_rfl
theorem cellsSpot : Tryz.prog.cellsOf 81 = 2 := by kernel_rfl
theorem cellsFace : Tryz.prog.cellsOf 83 = 5 := by kernel_rfl
theorem cellsJoint : Tryz.prog.cellsOf 24 = 4 := by kernel_rfl
theorem cellsFaces : Tryz.prog.cellsOf 22 = 1 := by kernel_rfl

section
variable {H : Type} {enc : TypeId × Value → H} {w : World} {base : Nat} {spare : Nat → Bool} {held : Bool}
set_option maxRecDepth 4000 in
theorem open_spot {fuel : Nat} {cs : List Value} {x : DataW H × List MemPlace} (h : DataW.trod enc Tryz.prog w base spare held fuel 81 cs = some x) : ∃ a b : Int, cs = [.int .i64 a, .int .i64 b] ∧ I64 a ∧ I64 b := by
  have ht := Tryz.underlying81
  obtain ⟨_, _, _, _, hlen, _, _⟩ := DataW.trod_struct ht h
  obtain ⟨n0, h0, w0⟩ := field_int ht h 0 _ rfl cells3 (by rw [cellsSpot]; decide) Tryz.underlying3
  obtain ⟨n1, h1, w1⟩ := field_int ht h 1 _ rfl cells3 (by rw [cellsSpot]; decide) Tryz.underlying3
  have hl : cs.length = 2 := hlen.trans cellsSpot
  match cs, hl with
  | [c0, c1], _ => simp at h0 h1; exact ⟨n0, n1, by rw [h0, h1], w0, w1⟩
set_option maxRecDepth 4000 in
theorem open_face {fuel : Nat} {cs : List Value} {x : DataW H × List MemPlace} (h : DataW.trod enc Tryz.prog w base spare held fuel 83 cs = some x) : ∃ p : ByteArray × Fc, cs = [.string p.1, .int .i64 p.2.fx, .int .i64 p.2.fz, .int .i64 p.2.tx, .int .i64 p.2.tz] := by
  have ht := Tryz.underlying83
  obtain ⟨_, _, _, _, hlen, _, _⟩ := DataW.trod_struct ht h
  obtain ⟨v, y, n, h0, h0'⟩ := field_one ht h 0 _ rfl cellsStr (by rw [cellsFace]; decide)
  obtain ⟨s, hs, _, _⟩ := DataW.trod_string Tryz.underlying9 h0'
  obtain ⟨y1, n1, h1⟩ := field_sub ht h 1 _ rfl
  obtain ⟨a, b, e1, _, _⟩ := open_spot h1
  obtain ⟨y2, n2, h2⟩ := field_sub ht h 2 _ rfl
  obtain ⟨a', b', e2, _, _⟩ := open_spot h2
  have hl : cs.length = 5 := hlen.trans cellsFace
  match cs, hl with
  | [c0, c1, c2, c3, c4], _ =>
    have e1' : (([c0, c1, c2, c3, c4] : List Value).drop 1).take (Tryz.prog.cellsOf 81) = [.int .i64 a, .int .i64 b] := e1
    have e2' : (([c0, c1, c2, c3, c4] : List Value).drop 3).take (Tryz.prog.cellsOf 81) = [.int .i64 a', .int .i64 b'] := e2
    clear e1 e2
    rw [cellsSpot] at e1' e2'
    simp at e1' e2' h0 hs
    exact ⟨(s, ⟨a, b, a', b'⟩), by rw [h0, hs, e1'.1, e1'.2, e2'.1, e2'.2]⟩
set_option maxRecDepth 4000 in
theorem open_faces {fuel : Nat} {v : Value} {x : DataW H × List MemPlace} (h : DataW.trod enc Tryz.prog w base spare held fuel 22 [v] = some x) :
    ∃ A fs c, v = .slice A fs.length c ∧ (A = none → c = 0) ∧ Row w w.heap.size 5 A fs.length (fcsC fs) ∧ fs.length ≤ c ∧ c ≤ maxLen := by
  rcases Deep.open_slice Tryz.underlying22 h with ⟨h1, _⟩ | ⟨a, len, cap, m, n, D, Pl, h1, hb, hl, hm, hmm, _, hx⟩
  · simp at h1
    exact ⟨none, [], 0, h1, fun _ => rfl, Row.nil_, Nat.le_refl _, Nat.zero_le _⟩
  · have hv : v = .slice (some a) len cap := by simpa using h1
    have hlm : len ≤ m := by rw [hmm]; split <;> omega
    letI : Inhabited (ByteArray × Fc) := ⟨(⟨#[]⟩, ⟨0, 0, 0, 0⟩)⟩
    obtain ⟨F, hF⟩ := Deep.choose_lt (α := ByteArray × Fc) (n := len) (p := fun i p => w.cells? base (a.add (i * 5)) 5 = some [.string p.1, .int .i64 p.2.fx, .int .i64 p.2.fz, .int .i64 p.2.tx, .int .i64 p.2.tz]) (fun i hi => by
      obtain ⟨cs', c1, c2⟩ := hx i (by omega)
      obtain ⟨p, hp⟩ := open_face c2
      rw [cellsFace, hp] at c1
      exact ⟨p, c1⟩)
    have hlen : ((List.range len).map F).length = len := by simp
    refine ⟨some a, (List.range len).map F, cap, by rw [hlen]; exact hv, (fun h => by cases h), ?_, by rw [hlen]; exact hl, hm⟩
    refine ⟨fcsC_length _, fun hpos => ?_⟩
    rw [hlen] at hpos
    have hcell : ∀ i, i < len → ∀ k, k < 5 → w.cell? (a.add (i * 5 + k)) = ([.string (F i).1, .int .i64 (F i).2.fx, .int .i64 (F i).2.fz, .int .i64 (F i).2.tx, .int .i64 (F i).2.tz] : List Value)[k]? := fun i hi k hk => by
      have := (World.cells?_some (hF i hi)).2.2 k hk
      rw [← Deep.add_add]; exact this
    have h0 := hcell 0 hpos 0 (by omega)
    obtain ⟨g, o, s⟩ := a
    have hs : s = none := by
      cases s with
      | none => rfl
      | some s => unfold Addr.add at h0; simp [World.cell?] at h0; split at h0 <;> simp at h0
    subst hs
    refine ⟨g, o, rfl, ?_, ?_⟩
    · have := World.block_lt_of_cell? _ _ h0
      rwa [block_add] at this
    · intro j u hu
      have hj : j < len * 5 := by
        have := (List.getElem?_eq_some_iff.1 hu).1
        rw [fcsC_length, hlen] at this; exact this
      have hk : j / 5 < len := by omega
      have hg := fcsC_get ((List.range len).map F) (j / 5) (F (j / 5)) (by simp [hk])
      have hc := hcell (j / 5) hk (j % 5) (Nat.mod_lt _ (by omega))
      have hjj : j / 5 * 5 + j % 5 = j := by omega
      rw [hjj, Addr.add_lit] at hc
      rw [hc]
      rcases (by omega : j % 5 = 0 ∨ j % 5 = 1 ∨ j % 5 = 2 ∨ j % 5 = 3 ∨ j % 5 = 4) with e | e | e | e | e <;> rw [e] at hjj ⊢
      · rw [← hjj] at hu; rw [Nat.add_zero] at hu; rw [hg.1] at hu; exact hu
      · rw [← hjj, hg.2.1] at hu; exact hu
      · rw [← hjj, hg.2.2.1] at hu; exact hu
      · rw [← hjj, hg.2.2.2.1] at hu; exact hu
      · rw [← hjj, hg.2.2.2.2] at hu; exact hu
end

section
variable {H : Type} {enc : TypeId × Value → H} {w : World} {r : Reach} {b0 base : Nat} {spare : Nat → Bool} {held : Bool} {v : Value} {d : DataW H} {ps : List MemPlace}
set_option maxRecDepth 4000 in
theorem open_joint (hval : Value.okWide Tryz.prog w r b0 24 v) (hd : DataW.Trod enc Tryz.prog w base spare held 24 v d ps) :
    ∃ (j : Jo) (A : Option Addr) (c : Nat), v = .agg (joC j A c) ∧ (A = none → c = 0) ∧ Row w w.heap.size 5 A j.fs.length (fcsC j.fs) ∧ j.fs.length ≤ c ∧ c ≤ maxLen ∧ I64 j.thick ∧ I64 j.zone := by
  have ht := Tryz.underlying24
  obtain ⟨cs, rfl, hcs⟩ := okWide_struct ht hval
  obtain ⟨n, h⟩ := hd
  have hc4 : cs.toList.length = 4 := by simpa using hcs.trans cellsJoint
  have h' : DataW.trod enc Tryz.prog w base spare held n 24 cs.toList = some (d, ps) := h
  obtain ⟨v0, y0, m0, h0, h0'⟩ := field_one ht h' 0 _ rfl cellsStr (by rw [cellsJoint]; decide)
  obtain ⟨s, hs, _, _⟩ := DataW.trod_string Tryz.underlying9 h0'
  obtain ⟨n1, h1, w1⟩ := field_int ht h' 1 _ rfl cells3 (by rw [cellsJoint]; decide) Tryz.underlying3
  obtain ⟨n2, h2, w2⟩ := field_int ht h' 2 _ rfl cells3 (by rw [cellsJoint]; decide) Tryz.underlying3
  obtain ⟨v3, y3, m3, h3, h3'⟩ := field_one ht h' 3 _ rfl cellsFaces (by rw [cellsJoint]; decide)
  obtain ⟨A, fs, c, hv3, hA, hR, hn, hm⟩ := open_faces h3'
  refine ⟨⟨s, n1, n2, fs⟩, A, c, ?_, hA, hR, hn, hm, w1, w2⟩
  have hl : cs.toList = [.string s, .int .i64 n1, .int .i64 n2, .slice A fs.length c] := by
    match hq : cs.toList, hc4 with
    | [c0, c1, c2, c3], _ =>
      rw [hq] at h0 h1 h2 h3
      simp at h0 h1 h2 h3 hs
      rw [h0, hs, h1, h2, h3, hv3]
  have : cs = #[.string s, .int .i64 n1, .int .i64 n2, .slice A fs.length c] := by apply Array.ext'; exact hl
  rw [this]; rfl
end
end Go.Proofs.YtaekcfancfoccaaGreatDoor

namespace Go.Proofs.YtaekcfancfoccaaGreatDoor
open Go.ChangeShapes Go.WideShapes Go.ChangeAt Go.RowKit

end Go.Proofs.YtaekcfancfoccaaGreatDoor

namespace Go.Proofs.YtaekcfancfoccaaGreatDoor
open Go.ChangeShapes Go.WideShapes Go.ChangeAt Go.RowKit

end Go.Proofs.YtaekcfancfoccaaGreatDoor
