/- Openers of the rows' arguments: the variables that the rows lay, tracks, numbers. Openers of the rows' arguments: joints and bevels. Openers of the rows' arguments: asks, points. Openers of the arguments of the statements: parts, places, numbers. -/
import Derived.Test.YtlnkgjkjdllckaaGreatDoorRows
import Derived.WalkKit
import Derived.ProofKit
import Derived.OpenShut
import Derived.Deep.DeepHandedRow
import Derived.Deep.Slices
import Derived.Lib.LaidTab
import Derived.ReadAgain
import Derived.Carry
import Derived.Test.YtlnkgjkjdllckaaGreatDoorZpCvT
import Derived.Test.YtlnkgjkjdllckaaGreatDoorZpCvM
namespace Go.Proofs.YtlnkgjkjdllckaaGreatDoor
open Go.ChangeShapes Go.WideShapes Go.ChangeAt Go.RowKit

section
variable {H : Type} {enc : TypeId × Value → H} {P : Program} {w : World} {base : Nat} {spare : Nat → Bool} {held : Bool}

/-- A field of one cell. -/
theorem field_one {t : TypeId} {fs : Array Field} {fuel : Nat} {cs : List Value} {x : DataW H × List MemPlace} (ht : P.underlying t = some (.struct fs)) (h : DataW.trod enc P w base spare held fuel t cs = some x)
    (i : Nat) (f : Field) (hf : fs[i]? = some f) (hc : P.cellsOf f.type = 1) (hl : f.offset < P.cellsOf t) :
    ∃ v y n, cs[f.offset]? = some v ∧ DataW.trod enc P w base spare held n f.type [v] = some y := by
  obtain ⟨xs, n, _, rfl, hlen, hxs, hg⟩ := DataW.trod_struct ht h
  have h1 := hg i f hf
  have hi : i < xs.length := by rw [hxs]; exact (Array.getElem?_eq_some_iff.1 hf).1
  rw [List.getElem?_eq_getElem hi, hc] at h1
  have hlo : f.offset < cs.length := by omega
  have hd : (cs.drop f.offset).take 1 = [cs[f.offset]] := by
    rw [List.drop_eq_getElem_cons hlo]; rfl
  rw [hd] at h1
  exact ⟨cs[f.offset], xs[i], n, List.getElem?_eq_getElem hlo, h1⟩
theorem field_int {t : TypeId} {fs : Array Field} {fuel : Nat} {cs : List Value} {x : DataW H × List MemPlace} (ht : P.underlying t = some (.struct fs)) (h : DataW.trod enc P w base spare held fuel t cs = some x)
    (i : Nat) (f : Field) (hf : fs[i]? = some f) (hc : P.cellsOf f.type = 1) (hl : f.offset < P.cellsOf t) (he : P.underlying f.type = some (.int .i64)) :
    ∃ n, cs[f.offset]? = some (.int .i64 n) ∧ I64 n := by
  obtain ⟨v, y, n, h1, h2⟩ := field_one ht h i f hf hc hl
  obtain ⟨z, hz, _, hw⟩ := DataW.trod_int he h2
  obtain rfl : v = .int .i64 z := by simpa using hz
  exact ⟨z, h1, bounds_i64 hw⟩
/-- A field of several cells. -/
theorem field_sub {t : TypeId} {fs : Array Field} {fuel : Nat} {cs : List Value} {x : DataW H × List MemPlace} (ht : P.underlying t = some (.struct fs)) (h : DataW.trod enc P w base spare held fuel t cs = some x)
    (i : Nat) (f : Field) (hf : fs[i]? = some f) :
    ∃ y n, DataW.trod enc P w base spare held n f.type ((cs.drop f.offset).take (P.cellsOf f.type)) = some y := by
  obtain ⟨xs, n, _, rfl, hlen, hxs, hg⟩ := DataW.trod_struct ht h
  have hi : i < xs.length := by rw [hxs]; exact (Array.getElem?_eq_some_iff.1 hf).1
  have h1 := hg i f hf
  rw [List.getElem?_eq_getElem hi] at h1
  exact ⟨xs[i], n, h1⟩
end

theorem kids : Kids Tryz.prog (· < Tryz.prog.types.size) := kids_rows (by kernel_rfl) (by kernel_rfl)
theorem full : ∀ t e, t < Tryz.prog.types.size → Tryz.prog.underlying t = some (.slice e) → 0 < Tryz.prog.cellsOf e := slices_full_of Tryz.prog (by kernel_rfl)
theorem ownKnobNone : ownKnob Tryz.prog.godebug = none := by kernel_rfl
theorem cellsTrack : Tryz.prog.cellsOf 65 = 4 := by kernel_rfl
theorem cellsPoint : Tryz.prog.cellsOf 35 = 2 := by kernel_rfl
theorem cells3 : Tryz.prog.cellsOf 3 = 1 := by kernel_rfl

section
variable {H : Type} {enc : TypeId × Value → H} {w : World} {base : Nat} {spare : Nat → Bool} {held : Bool}
set_option maxRecDepth 4000 in
/-- A point that reads as two numbers. -/
theorem open_pair {fuel : Nat} {cs : List Value} {a b : Int} {p : List MemPlace} (h : DataW.trod enc Tryz.prog w base spare held fuel 35 cs = some (.agg [.lit (.int .i64 a), .lit (.int .i64 b)], p)) : cs = [.int .i64 a, .int .i64 b] := by
  have ht := Tryz.underlying35
  obtain ⟨xs, n, _, hx, hlen, hxs, hg⟩ := DataW.trod_struct ht h
  match xs, hxs with
  | [y0, y1], _ =>
    have h0 : DataW.trod enc Tryz.prog w base spare held n 3 ((cs.drop 0).take (Tryz.prog.cellsOf 3)) = some y0 := hg 0 _ rfl
    have h1 : DataW.trod enc Tryz.prog w base spare held n 3 ((cs.drop 1).take (Tryz.prog.cellsOf 3)) = some y1 := hg 1 _ rfl
    rw [cells3] at h0 h1
    obtain ⟨n0, e0, x0, _⟩ := DataW.trod_int Tryz.underlying3 h0
    obtain ⟨n1, e1, x1, _⟩ := DataW.trod_int Tryz.underlying3 h1
    have hl : cs.length = 2 := hlen.trans cellsPoint
    match cs, hl with
    | [c0, c1], _ =>
      simp at e0 e1
      subst e0 e1 x0 x1
      simp at hx
      obtain ⟨⟨rfl, rfl⟩, _⟩ := hx
      rfl
end

theorem begin_named : Tryz.prog.globalNamed "couplant/cover.begin" = some 0 := by kernel_rfl
theorem end_named : Tryz.prog.globalNamed "couplant/cover.end" = some 1 := by kernel_rfl
theorem begin_type : (Tryz.prog.globals[0]?).map (·.type) = some 35 := by kernel_rfl
theorem end_type : (Tryz.prog.globals[1]?).map (·.type) = some 35 := by kernel_rfl

/-- What the rows' list gives. -/
theorem ends_of {W : World} (h : laidMetH Tryz.prog [("couplant/cover.begin", Rows.laid_couplant_cover_begin), ("couplant/cover.end", Rows.laid_couplant_cover_end)] W) : Ends W := by
  have h' : laidMet Tryz.prog [("couplant/cover.begin", Rows.laid_couplant_cover_begin), ("couplant/cover.end", Rows.laid_couplant_cover_end)] W := h
  obtain ⟨ps, ⟨g, t, cs, fuel, p, q, hg, ht, hv, hd, ⟨g', t', cs', fuel', p', q', hg', ht', hv', hd', _, _⟩, _⟩, _⟩ := h'
  obtain rfl := Option.some.inj (begin_named.symm.trans hg)
  obtain rfl := Option.some.inj (begin_type.symm.trans ht)
  obtain rfl := Option.some.inj (end_named.symm.trans hg')
  obtain rfl := Option.some.inj (end_type.symm.trans ht')
  have e1 := open_pair hd
  have e2 := open_pair hd'
  have c := fun i => World.var?_cell begin_named hv i
  have c' := fun i => World.var?_cell end_named hv' i
  have g0 : cs = #[.int .i64 0, .int .i64 1] := by apply Array.ext'; exact e1
  have g1 : cs' = #[.int .i64 1, .int .i64 1] := by apply Array.ext'; exact e2
  exact ⟨by rw [c 0, g0]; rfl, by rw [c 1, g0]; rfl, by rw [c' 0, g1]; rfl, by rw [c' 1, g1]; rfl⟩

section
variable {H : Type} {enc : TypeId × Value → H} {w : World} {r : Reach} {b0 base : Nat} {spare : Nat → Bool} {held : Bool} {v : Value} {d : DataW H} {ps : List MemPlace}
set_option maxRecDepth 4000 in
/-- A track. -/
theorem open_track (hval : Value.okWide Tryz.prog w r b0 65 v) (hd : DataW.Trod enc Tryz.prog w base spare held 65 v d ps) : ∃ t : Tk, v = .agg (tkC t) := by
  have ht := Tryz.underlying65
  obtain ⟨cs, rfl, hcs⟩ := okWide_struct ht hval
  obtain ⟨n, h⟩ := hd
  have hc4 : cs.size = 4 := hcs.trans cellsTrack
  have h' : DataW.trod enc Tryz.prog w base spare held n 65 cs.toList = some (d, ps) := h
  obtain ⟨n0, h0, _⟩ := field_int ht h' 0 _ rfl cells3 (by rw [cellsTrack]; decide) Tryz.underlying3
  obtain ⟨n1, h1, _⟩ := field_int ht h' 1 _ rfl cells3 (by rw [cellsTrack]; decide) Tryz.underlying3
  obtain ⟨n2, h2, _⟩ := field_int ht h' 2 _ rfl cells3 (by rw [cellsTrack]; decide) Tryz.underlying3
  obtain ⟨n3, h3, _⟩ := field_int ht h' 3 _ rfl cells3 (by rw [cellsTrack]; decide) Tryz.underlying3
  refine ⟨⟨n0, n1, n2, n3⟩, ?_⟩
  have hl : cs.toList = [.int .i64 n0, .int .i64 n1, .int .i64 n2, .int .i64 n3] := by
    have hlen : cs.toList.length = 4 := by simpa using hc4
    match hm : cs.toList, hlen with
    | [c0, c1, c2, c3], _ => rw [hm] at h0 h1 h2 h3; simp at h0 h1 h2 h3; rw [h0, h1, h2, h3]
  have : cs = #[.int .i64 n0, .int .i64 n1, .int .i64 n2, .int .i64 n3] := by apply Array.ext'; exact hl
  rw [this]; rfl

set_option maxRecDepth 4000 in
/-- Numbers. -/
theorem open_numbers (hval : Value.okWide Tryz.prog w r b0 43 v) (hd : DataW.Trod enc Tryz.prog w base spare held 43 v d ps) :
    ∃ A zs c, v = .slice A zs.length c ∧ (A = none → c = 0) ∧ Row w w.heap.size 1 A zs.length (intsC zs) ∧ (∀ p ∈ zs, I64 p) ∧ zs.length ≤ c ∧ c ≤ maxLen := by
  have ht := Tryz.underlying43
  obtain ⟨A, len, cap, rfl⟩ := okWide_slice ht hval
  obtain ⟨n, h⟩ := hd
  have h' : DataW.trod enc Tryz.prog w base spare held n 43 [.slice A len cap] = some (d, ps) := h
  rcases open_ints ht Tryz.underlying3 cells3 h' with ⟨h1, _⟩ | ⟨a, len', cap', zs, h1, hb, hl, hm, hz, _, hc, hw⟩
  · simp at h1
    obtain ⟨rfl, rfl, rfl⟩ := h1
    exact ⟨none, [], 0, rfl, fun _ => rfl, Row.nil_, by simp, Nat.le_refl _, Nat.zero_le _⟩
  · simp at h1
    obtain ⟨rfl, rfl, rfl⟩ := h1
    have hlz : len ≤ zs.length := by rw [hz]; split <;> omega
    have hlen : (zs.take len).length = len := by simp; omega
    refine ⟨some a, zs.take len, cap, by rw [hlen], (fun h => by cases h), ?_, ?_, by omega, hm⟩
    · refine ⟨by simp [intsC], fun hpos => ?_⟩
      rw [hlen] at hpos
      have h0 := hc 0 (by omega)
      obtain ⟨g, o, s⟩ := a
      have hs : s = none := by
        cases s with
        | none => rfl
        | some s => unfold Addr.add at h0; simp [World.cell?] at h0; split at h0 <;> simp at h0
      subst hs
      refine ⟨g, o, rfl, ?_, ?_⟩
      · have := World.block_lt_of_cell? _ _ h0
        rwa [block_add] at this
      · intro j u hu
        have hj : j < len := by
          have := (List.getElem?_eq_some_iff.1 hu).1
          simp [intsC] at this; omega
        have hcj := hc j (by omega)
        rw [Addr.add_lit] at hcj
        rw [hcj]
        simp [intsC, hj] at hu
        obtain ⟨z, hz', rfl⟩ := hu
        simp [List.getD, hz']
    · intro p hp
      exact bounds_i64 (hw p (List.mem_of_mem_take hp))
end

theorem laidOut : laidOutB Tryz.prog = true := by kernel_rfl
/-- The arguments read behind a call as before, where below the heap's old size nothing has turned. -/
theorem args_below {H : Type} {enc : TypeId × Value → H} {W W' : World} (hb : Below W.heap.size W W') : ∀ {ts : List TypeId} {vs : List Value} {ds : List (DataW H)} {ps : List MemPlace},
    (∀ t ∈ ts, Tryz.prog.readableRec t = true ∧ t < Tryz.prog.types.size) → (∀ x ∈ ps, x.block < W.heap.size) → DataW.TrodAll enc Tryz.prog W 0 (fun _ => true) true ts vs ds ps → DataW.TrodAll enc Tryz.prog W' 0 (fun b => decide (b < W.heap.size)) true ts vs ds ps
  | [], [], [], _, _, _, h => h
  | [], [], _ :: _, _, _, _, h => h.elim
  | [], _ :: _, _, _, _, _, h => h.elim
  | _ :: _, [], _, _, _, _, h => h.elim
  | _ :: _, _ :: _, [], _, _, _, h => h.elim
  | t :: ts, v :: vs, d :: ds, ps, ht, hlt, h => by
    obtain ⟨p, q, h1, h2, rfl⟩ := h
    exact ⟨p, q, Below.trod laidOut (ht t (by simp)).1 (ht t (by simp)).2 h1 hb (fun x hx => hlt x (by simp [hx])), args_below hb (fun u hu => ht u (by simp [hu])) (fun x hx => hlt x (by simp [hx])) h2, rfl⟩
end Go.Proofs.YtlnkgjkjdllckaaGreatDoor

namespace Go.Proofs.YtlnkgjkjdllckaaGreatDoor
open Go.ChangeShapes Go.WideShapes Go.ChangeAt Go.RowKit

theorem cellsStr : Tryz.prog.cellsOf 9 = 1 := by kernel_rfl
theorem cellsSpot : Tryz.prog.cellsOf 98 = 2 := by kernel_rfl
theorem cellsFrac : Tryz.prog.cellsOf 32 = 2 := by kernel_rfl
theorem cellsFace : Tryz.prog.cellsOf 100 = 5 := by kernel_rfl
theorem cellsJoint : Tryz.prog.cellsOf 24 = 4 := by kernel_rfl
theorem cellsFaces : Tryz.prog.cellsOf 22 = 1 := by kernel_rfl

section
variable {H : Type} {enc : TypeId × Value → H} {w : World} {base : Nat} {spare : Nat → Bool} {held : Bool}
set_option maxRecDepth 4000 in
theorem open_spot {fuel : Nat} {cs : List Value} {x : DataW H × List MemPlace} (h : DataW.trod enc Tryz.prog w base spare held fuel 98 cs = some x) : ∃ a b : Int, cs = [.int .i64 a, .int .i64 b] ∧ I64 a ∧ I64 b := by
  have ht := Tryz.underlying98
  obtain ⟨_, _, _, _, hlen, _, _⟩ := DataW.trod_struct ht h
  obtain ⟨n0, h0, w0⟩ := field_int ht h 0 _ rfl cells3 (by rw [cellsSpot]; decide) Tryz.underlying3
  obtain ⟨n1, h1, w1⟩ := field_int ht h 1 _ rfl cells3 (by rw [cellsSpot]; decide) Tryz.underlying3
  have hl : cs.length = 2 := hlen.trans cellsSpot
  match cs, hl with
  | [c0, c1], _ => simp at h0 h1; exact ⟨n0, n1, by rw [h0, h1], w0, w1⟩
set_option maxRecDepth 4000 in
theorem open_frac {fuel : Nat} {cs : List Value} {x : DataW H × List MemPlace} (h : DataW.trod enc Tryz.prog w base spare held fuel 32 cs = some x) : ∃ a b : Int, cs = [.int .i64 a, .int .i64 b] ∧ I64 a ∧ I64 b := by
  have ht := Tryz.underlying32
  obtain ⟨_, _, _, _, hlen, _, _⟩ := DataW.trod_struct ht h
  obtain ⟨n0, h0, w0⟩ := field_int ht h 0 _ rfl cells3 (by rw [cellsFrac]; decide) Tryz.underlying3
  obtain ⟨n1, h1, w1⟩ := field_int ht h 1 _ rfl cells3 (by rw [cellsFrac]; decide) Tryz.underlying3
  have hl : cs.length = 2 := hlen.trans cellsFrac
  match cs, hl with
  | [c0, c1], _ => simp at h0 h1; exact ⟨n0, n1, by rw [h0, h1], w0, w1⟩
set_option maxRecDepth 4000 in
theorem open_face {fuel : Nat} {cs : List Value} {x : DataW H × List MemPlace} (h : DataW.trod enc Tryz.prog w base spare held fuel 100 cs = some x) : ∃ p : ByteArray × Fc, cs = [.string p.1, .int .i64 p.2.fx, .int .i64 p.2.fz, .int .i64 p.2.tx, .int .i64 p.2.tz] := by
  have ht := Tryz.underlying100
  obtain ⟨_, _, _, _, hlen, _, _⟩ := DataW.trod_struct ht h
  obtain ⟨v, y, n, h0, h0'⟩ := field_one ht h 0 _ rfl cellsStr (by rw [cellsFace]; decide)
  obtain ⟨s, hs, _, _⟩ := DataW.trod_string Tryz.underlying9 h0'
  obtain ⟨y1, n1, h1⟩ := field_sub ht h 1 _ rfl
  obtain ⟨a, b, e1, _, _⟩ := open_spot h1
  obtain ⟨y2, n2, h2⟩ := field_sub ht h 2 _ rfl
  obtain ⟨a', b', e2, _, _⟩ := open_spot h2
  have hl : cs.length = 5 := hlen.trans cellsFace
  match cs, hl with
  | [c0, c1, c2, c3, c4], _ =>
    have e1' : (([c0, c1, c2, c3, c4] : List Value).drop 1).take (Tryz.prog.cellsOf 98) = [.int .i64 a, .int .i64 b] := e1
    have e2' : (([c0, c1, c2, c3, c4] : List Value).drop 3).take (Tryz.prog.cellsOf 98) = [.int .i64 a', .int .i64 b'] := e2
    clear e1 e2
    rw [cellsSpot] at e1' e2'
    simp at e1' e2' h0 hs
    exact ⟨(s, ⟨a, b, a', b'⟩), by rw [h0, hs, e1'.1, e1'.2, e2'.1, e2'.2]⟩
set_option maxRecDepth 4000 in
/-- Faces. -/
theorem open_faces {fuel : Nat} {v : Value} {x : DataW H × List MemPlace} (h : DataW.trod enc Tryz.prog w base spare held fuel 22 [v] = some x) :
    ∃ A fs c, v = .slice A fs.length c ∧ (A = none → c = 0) ∧ Row w w.heap.size 5 A fs.length (fcsC fs) ∧ fs.length ≤ c ∧ c ≤ maxLen := by
  rcases Deep.open_slice Tryz.underlying22 h with ⟨h1, _⟩ | ⟨a, len, cap, m, n, D, Pl, h1, hb, hl, hm, hmm, _, hx⟩
  · simp at h1
    exact ⟨none, [], 0, h1, fun _ => rfl, Row.nil_, Nat.le_refl _, Nat.zero_le _⟩
  · have hv : v = .slice (some a) len cap := by simpa using h1
    have hlm : len ≤ m := by rw [hmm]; split <;> omega
    letI : Inhabited (ByteArray × Fc) := ⟨(⟨#[]⟩, ⟨0, 0, 0, 0⟩)⟩
    obtain ⟨F, hF⟩ := Deep.choose_lt (α := ByteArray × Fc) (n := len) (p := fun i p => w.cells? base (a.add (i * 5)) 5 = some [.string p.1, .int .i64 p.2.fx, .int .i64 p.2.fz, .int .i64 p.2.tx, .int .i64 p.2.tz]) (fun i hi => by
      obtain ⟨cs', c1, c2⟩ := hx i (by omega)
      obtain ⟨p, hp⟩ := open_face c2
      rw [cellsFace, hp] at c1
      exact ⟨p, c1⟩)
    have hlen : ((List.range len).map F).length = len := by simp
    refine ⟨some a, (List.range len).map F, cap, by rw [hlen]; exact hv, (fun h => by cases h), ?_, by rw [hlen]; exact hl, hm⟩
    refine ⟨fcsC_length _, fun hpos => ?_⟩
    rw [hlen] at hpos
    have hcell : ∀ i, i < len → ∀ k, k < 5 → w.cell? (a.add (i * 5 + k)) = ([.string (F i).1, .int .i64 (F i).2.fx, .int .i64 (F i).2.fz, .int .i64 (F i).2.tx, .int .i64 (F i).2.tz] : List Value)[k]? := fun i hi k hk => by
      have := (World.cells?_some (hF i hi)).2.2 k hk
      rw [← Deep.add_add]; exact this
    have h0 := hcell 0 hpos 0 (by omega)
    obtain ⟨g, o, s⟩ := a
    have hs : s = none := by
      cases s with
      | none => rfl
      | some s => unfold Addr.add at h0; simp [World.cell?] at h0; split at h0 <;> simp at h0
    subst hs
    refine ⟨g, o, rfl, ?_, ?_⟩
    · have := World.block_lt_of_cell? _ _ h0
      rwa [block_add] at this
    · intro j u hu
      have hj : j < len * 5 := by
        have := (List.getElem?_eq_some_iff.1 hu).1
        rw [fcsC_length, hlen] at this; exact this
      have hk : j / 5 < len := by omega
      have hg := fcsC_get ((List.range len).map F) (j / 5) (F (j / 5)) (by simp [hk])
      have hc := hcell (j / 5) hk (j % 5) (Nat.mod_lt _ (by omega))
      have hjj : j / 5 * 5 + j % 5 = j := by omega
      rw [hjj, Addr.add_lit] at hc
      rw [hc]
      rcases (by omega : j % 5 = 0 ∨ j % 5 = 1 ∨ j % 5 = 2 ∨ j % 5 = 3 ∨ j % 5 = 4) with e | e | e | e | e <;> rw [e] at hjj ⊢
      · rw [← hjj] at hu; rw [Nat.add_zero] at hu; rw [hg.1] at hu; exact hu
      · rw [← hjj, hg.2.1] at hu; exact hu
      · rw [← hjj, hg.2.2.1] at hu; exact hu
      · rw [← hjj, hg.2.2.2.1] at hu; exact hu
      · rw [← hjj, hg.2.2.2.2] at hu; exact hu
end

section
variable {H : Type} {enc : TypeId × Value → H} {w : World} {r : Reach} {b0 base : Nat} {spare : Nat → Bool} {held : Bool} {v : Value} {d : DataW H} {ps : List MemPlace}
set_option maxRecDepth 4000 in
/-- A joint. -/
theorem open_joint (hval : Value.okWide Tryz.prog w r b0 24 v) (hd : DataW.Trod enc Tryz.prog w base spare held 24 v d ps) :
    ∃ (j : Jo) (A : Option Addr) (c : Nat), v = .agg (joC j A c) ∧ (A = none → c = 0) ∧ Row w w.heap.size 5 A j.fs.length (fcsC j.fs) ∧ j.fs.length ≤ c ∧ c ≤ maxLen ∧ I64 j.thick ∧ I64 j.zone := by
  have ht := Tryz.underlying24
  obtain ⟨cs, rfl, hcs⟩ := okWide_struct ht hval
  obtain ⟨n, h⟩ := hd
  have hc4 : cs.toList.length = 4 := by simpa using hcs.trans cellsJoint
  have h' : DataW.trod enc Tryz.prog w base spare held n 24 cs.toList = some (d, ps) := h
  obtain ⟨v0, y0, m0, h0, h0'⟩ := field_one ht h' 0 _ rfl cellsStr (by rw [cellsJoint]; decide)
  obtain ⟨s, hs, _, _⟩ := DataW.trod_string Tryz.underlying9 h0'
  obtain ⟨n1, h1, w1⟩ := field_int ht h' 1 _ rfl cells3 (by rw [cellsJoint]; decide) Tryz.underlying3
  obtain ⟨n2, h2, w2⟩ := field_int ht h' 2 _ rfl cells3 (by rw [cellsJoint]; decide) Tryz.underlying3
  obtain ⟨v3, y3, m3, h3, h3'⟩ := field_one ht h' 3 _ rfl cellsFaces (by rw [cellsJoint]; decide)
  obtain ⟨A, fs, c, hv3, hA, hR, hn, hm⟩ := open_faces h3'
  refine ⟨⟨s, n1, n2, fs⟩, A, c, ?_, hA, hR, hn, hm, w1, w2⟩
  have hl : cs.toList = [.string s, .int .i64 n1, .int .i64 n2, .slice A fs.length c] := by
    match hq : cs.toList, hc4 with
    | [c0, c1, c2, c3], _ =>
      rw [hq] at h0 h1 h2 h3
      simp at h0 h1 h2 h3 hs
      rw [h0, hs, h1, h2, h3, hv3]
  have : cs = #[.string s, .int .i64 n1, .int .i64 n2, .slice A fs.length c] := by apply Array.ext'; exact hl
  rw [this]; rfl
end
end Go.Proofs.YtlnkgjkjdllckaaGreatDoor

namespace Go.Proofs.YtlnkgjkjdllckaaGreatDoor
open Go.ChangeShapes Go.WideShapes Go.ChangeAt Go.RowKit

theorem cellsSetup : Tryz.prog.cellsOf 34 = 10 := by kernel_rfl
theorem cellsAsk : Tryz.prog.cellsOf 60 = 11 := by kernel_rfl

section
variable {H : Type} {enc : TypeId × Value → H} {w : World} {base : Nat} {spare : Nat → Bool} {held : Bool}
set_option maxRecDepth 4000 in
theorem open_setup_ {fuel : Nat} {cs : List Value} {x : DataW H × List MemPlace} (h : DataW.trod enc Tryz.prog w base spare held fuel 34 cs = some x) :
    ∃ (sn : ByteArray) (s : Su), cs = [.string sn, .int .i64 s.at_, .int .i64 s.side, .int .i64 s.legs, .int .i64 s.ln, .int .i64 s.ld, .int .i64 s.mn, .int .i64 s.md, .int .i64 s.tn, .int .i64 s.td] ∧ s.wf := by
  have ht := Tryz.underlying34
  obtain ⟨_, _, _, _, hlen, _, _⟩ := DataW.trod_struct ht h
  obtain ⟨v, y, m, h0, h0'⟩ := field_one ht h 0 _ rfl cellsStr (by rw [cellsSetup]; decide)
  obtain ⟨sn, hs, _, _⟩ := DataW.trod_string Tryz.underlying9 h0'
  obtain ⟨n1, h1, w1⟩ := field_int ht h 1 _ rfl cells3 (by rw [cellsSetup]; decide) Tryz.underlying3
  obtain ⟨n2, h2, w2⟩ := field_int ht h 2 _ rfl cells3 (by rw [cellsSetup]; decide) Tryz.underlying3
  obtain ⟨n3, h3, w3⟩ := field_int ht h 3 _ rfl cells3 (by rw [cellsSetup]; decide) Tryz.underlying3
  obtain ⟨y4, m4, h4⟩ := field_sub ht h 4 _ rfl
  obtain ⟨a4, b4, e4, u4, v4⟩ := open_frac h4
  obtain ⟨y5, m5, h5⟩ := field_sub ht h 5 _ rfl
  obtain ⟨a5, b5, e5, u5, v5⟩ := open_frac h5
  obtain ⟨y6, m6, h6⟩ := field_sub ht h 6 _ rfl
  obtain ⟨a6, b6, e6, u6, v6⟩ := open_frac h6
  have hl : cs.length = 10 := hlen.trans cellsSetup
  match cs, hl with
  | [c0, c1, c2, c3, c4, c5, c6, c7, c8, c9], _ =>
    have e4' : (([c0, c1, c2, c3, c4, c5, c6, c7, c8, c9] : List Value).drop 4).take (Tryz.prog.cellsOf 32) = [.int .i64 a4, .int .i64 b4] := e4
    have e5' : (([c0, c1, c2, c3, c4, c5, c6, c7, c8, c9] : List Value).drop 6).take (Tryz.prog.cellsOf 32) = [.int .i64 a5, .int .i64 b5] := e5
    have e6' : (([c0, c1, c2, c3, c4, c5, c6, c7, c8, c9] : List Value).drop 8).take (Tryz.prog.cellsOf 32) = [.int .i64 a6, .int .i64 b6] := e6
    clear e4 e5 e6
    rw [cellsFrac] at e4' e5' e6'
    simp at e4' e5' e6' h0 h1 h2 h3 hs
    exact ⟨sn, ⟨n1, n2, n3, a4, b4, a5, b5, a6, b6⟩, by rw [h0, hs, h1, h2, h3, e4'.1, e4'.2, e5'.1, e5'.2, e6'.1, e6'.2], ⟨w1, w2, w3, u4, v4, u5, v5, u6, v6⟩⟩
end

section
variable {H : Type} {enc : TypeId × Value → H} {w : World} {r : Reach} {b0 base : Nat} {spare : Nat → Bool} {held : Bool} {v : Value} {d : DataW H} {ps : List MemPlace}
set_option maxRecDepth 4000 in
/-- A face and a set-up. -/
theorem open_ask (hval : Value.okWide Tryz.prog w r b0 60 v) (hd : DataW.Trod enc Tryz.prog w base spare held 60 v d ps) :
    ∃ (face : Int) (sn : ByteArray) (s : Su), v = .agg (asC face sn s) ∧ I64 face ∧ s.wf := by
  have ht := Tryz.underlying60
  obtain ⟨cs, rfl, hcs⟩ := okWide_struct ht hval
  obtain ⟨n, h⟩ := hd
  have hc : cs.toList.length = 11 := by simpa using hcs.trans cellsAsk
  have h' : DataW.trod enc Tryz.prog w base spare held n 60 cs.toList = some (d, ps) := h
  obtain ⟨n0, h0, w0⟩ := field_int ht h' 0 _ rfl cells3 (by rw [cellsAsk]; decide) Tryz.underlying3
  obtain ⟨y1, m1, h1⟩ := field_sub ht h' 1 _ rfl
  obtain ⟨sn, s, e1, ws⟩ := open_setup_ h1
  refine ⟨n0, sn, s, ?_, w0, ws⟩
  have e1' : (cs.toList.drop 1).take (Tryz.prog.cellsOf 34) = _ := e1
  clear e1
  rw [cellsSetup] at e1'
  have hl : cs.toList = (asC n0 sn s).toList := by
    match hq : cs.toList, hc with
    | [c0, c1, c2, c3, c4, c5, c6, c7, c8, c9, c10], _ =>
      rw [hq] at h0 e1'
      simp at h0 e1'
      simp [asC, h0, e1']
  have : cs = asC n0 sn s := by apply Array.ext'; exact hl
  rw [this]
set_option maxRecDepth 4000 in
/-- A point of a face. -/
theorem open_point (hval : Value.okWide Tryz.prog w r b0 35 v) (hd : DataW.Trod enc Tryz.prog w base spare held 35 v d ps) :
    ∃ n m : Int, v = .agg #[.int .i64 n, .int .i64 m] ∧ I64 n ∧ I64 m := by
  have ht := Tryz.underlying35
  obtain ⟨cs, rfl, hcs⟩ := okWide_struct ht hval
  obtain ⟨k, h⟩ := hd
  have hc : cs.toList.length = 2 := by simpa using hcs.trans cellsPoint
  have h' : DataW.trod enc Tryz.prog w base spare held k 35 cs.toList = some (d, ps) := h
  obtain ⟨n0, h0, w0⟩ := field_int ht h' 0 _ rfl cells3 (by rw [cellsPoint]; decide) Tryz.underlying3
  obtain ⟨n1, h1, w1⟩ := field_int ht h' 1 _ rfl cells3 (by rw [cellsPoint]; decide) Tryz.underlying3
  refine ⟨n0, n1, ?_, w0, w1⟩
  have hl : cs.toList = [.int .i64 n0, .int .i64 n1] := by
    match hq : cs.toList, hc with
    | [c0, c1], _ =>
      rw [hq] at h0 h1
      simp at h0 h1
      rw [h0, h1]
  have : cs = #[.int .i64 n0, .int .i64 n1] := by apply Array.ext'; exact hl
  rw [this]
end
end Go.Proofs.YtlnkgjkjdllckaaGreatDoor

namespace Go.Proofs.YtlnkgjkjdllckaaGreatDoor
open Go.ChangeShapes Go.WideShapes Go.ChangeAt Go.RowKit

theorem cellsPart : Tryz.prog.cellsOf 37 = 4 := by kernel_rfl
section
variable {H : Type} {enc : TypeId × Value → H} {w : World} {r : Reach} {b0 base : Nat} {spare : Nat → Bool} {held : Bool} {v : Value} {d : DataW H} {ps : List MemPlace}
set_option maxRecDepth 4000 in
theorem open_pt {fuel : Nat} {cs : List Value} {x : DataW H × List MemPlace} (h : DataW.trod enc Tryz.prog w base spare held fuel 35 cs = some x) : ∃ a b : Int, cs = [.int .i64 a, .int .i64 b] ∧ I64 a ∧ I64 b := by
  have ht := Tryz.underlying35
  obtain ⟨_, _, _, _, hlen, _, _⟩ := DataW.trod_struct ht h
  obtain ⟨n0, h0, w0⟩ := field_int ht h 0 _ rfl cells3 (by rw [cellsPoint]; decide) Tryz.underlying3
  obtain ⟨n1, h1, w1⟩ := field_int ht h 1 _ rfl cells3 (by rw [cellsPoint]; decide) Tryz.underlying3
  have hl : cs.length = 2 := hlen.trans cellsPoint
  match cs, hl with
  | [c0, c1], _ => simp at h0 h1; exact ⟨n0, n1, by rw [h0, h1], w0, w1⟩
set_option maxRecDepth 4000 in
/-- Two points of a face. -/
theorem open_part (hval : Value.okWide Tryz.prog w r b0 37 v) (hd : DataW.Trod enc Tryz.prog w base spare held 37 v d ps) :
    ∃ n m k l : Int, v = .agg #[.int .i64 n, .int .i64 m, .int .i64 k, .int .i64 l] ∧ I64 n ∧ I64 m := by
  have ht := Tryz.underlying37
  obtain ⟨cs, rfl, hcs⟩ := okWide_struct ht hval
  obtain ⟨q, h⟩ := hd
  have hc : cs.toList.length = 4 := by simpa using hcs.trans cellsPart
  have h' : DataW.trod enc Tryz.prog w base spare held q 37 cs.toList = some (d, ps) := h
  obtain ⟨y0, m0, h0⟩ := field_sub ht h' 0 _ rfl
  obtain ⟨y1, m1, h1⟩ := field_sub ht h' 1 _ rfl
  obtain ⟨n0, n1, e0, w0, w1⟩ := open_pt h0
  obtain ⟨n2, n3, e1, w2, w3⟩ := open_pt h1
  have e0' : (cs.toList.drop 0).take (Tryz.prog.cellsOf 35) = _ := e0
  have e1' : (cs.toList.drop 2).take (Tryz.prog.cellsOf 35) = _ := e1
  clear e0 e1
  rw [cellsPoint] at e0' e1'
  refine ⟨n0, n1, n2, n3, ?_, w0, w1⟩
  have hl : cs.toList = [.int .i64 n0, .int .i64 n1, .int .i64 n2, .int .i64 n3] := by
    match hq : cs.toList, hc with
    | [c0, c1, c2, c3], _ =>
      rw [hq] at e0' e1'
      simp at e0' e1'
      simp [e0', e1']
  have : cs = #[.int .i64 n0, .int .i64 n1, .int .i64 n2, .int .i64 n3] := by apply Array.ext'; exact hl
  rw [this]
set_option maxRecDepth 4000 in
/-- A place. -/
theorem open_place (hval : Value.okWide Tryz.prog w r b0 98 v) (hd : DataW.Trod enc Tryz.prog w base spare held 98 v d ps) :
    ∃ n m : Int, v = .agg #[.int .i64 n, .int .i64 m] ∧ I64 n ∧ I64 m := by
  have ht := Tryz.underlying98
  obtain ⟨cs, rfl, hcs⟩ := okWide_struct ht hval
  obtain ⟨k, h⟩ := hd
  have h' : DataW.trod enc Tryz.prog w base spare held k 98 cs.toList = some (d, ps) := h
  obtain ⟨a, b, e, wa, wb⟩ := open_spot h'
  refine ⟨a, b, ?_, wa, wb⟩
  have : cs = #[.int .i64 a, .int .i64 b] := by apply Array.ext'; exact e
  rw [this]
set_option maxRecDepth 4000 in
/-- A number. -/
theorem open_number (hval : Value.okWide Tryz.prog w r b0 3 v) (hd : DataW.Trod enc Tryz.prog w base spare held 3 v d ps) : ∃ n : Int, v = .int .i64 n ∧ I64 n := by
  obtain ⟨x, rfl, _, _, wx⟩ := open_int Tryz.underlying3 hval hd
  exact ⟨x, rfl, bounds_i64 wx⟩
end
end Go.Proofs.YtlnkgjkjdllckaaGreatDoor
