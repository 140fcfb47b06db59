/- Openers of the rows' arguments: joints and bevels. -/
import Derived.Test.YtfbnpfhnffahdaaGreatDoorCwO
import Derived.Test.YtfbnpfhnffahdaaGreatDoorCvZ
namespace Go.Proofs.YtfbnpfhnffahdaaGreatDoor
open Go.ChangeShapes Go.WideShapes Go.ChangeAt Go.RowKit

theorem cellsStr : Tryz.prog.cellsOf 9 = 1 := by kernel_rfl
theorem cellsSpot : Tryz.prog.cellsOf 55 = 2 := by kernel_rfl
theorem cellsFrac : Tryz.prog.cellsOf 26 = 2 := by kernel_rfl
theorem cellsFace : Tryz.prog.cellsOf 57 = 5 := by kernel_rfl
theorem cellsJoint : Tryz.prog.cellsOf 24 = 4 := by kernel_rfl
theorem cellsBevel : Tryz.prog.cellsOf 28 = 7 := by kernel_rfl
theorem cellsFaces : Tryz.prog.cellsOf 22 = 1 := by kernel_rfl

section
variable {H : Type} {enc : TypeId × Value → H} {w : World} {base : Nat} {spare : Nat → Bool} {held : Bool}
set_option maxRecDepth 4000 in
theorem open_spot {fuel : Nat} {cs : List Value} {x : DataW H × List MemPlace} (h : DataW.trod enc Tryz.prog w base spare held fuel 55 cs = some x) : ∃ a b : Int, cs = [.int .i64 a, .int .i64 b] ∧ I64 a ∧ I64 b := by
  have ht := Tryz.underlying55
  obtain ⟨_, _, _, _, hlen, _, _⟩ := DataW.trod_struct ht h
  obtain ⟨n0, h0, w0⟩ := field_int ht h 0 _ rfl cells3 (by rw [cellsSpot]; decide) Tryz.underlying3
  obtain ⟨n1, h1, w1⟩ := field_int ht h 1 _ rfl cells3 (by rw [cellsSpot]; decide) Tryz.underlying3
  have hl : cs.length = 2 := hlen.trans cellsSpot
  match cs, hl with
  | [c0, c1], _ => simp at h0 h1; exact ⟨n0, n1, by rw [h0, h1], w0, w1⟩
set_option maxRecDepth 4000 in
theorem open_frac {fuel : Nat} {cs : List Value} {x : DataW H × List MemPlace} (h : DataW.trod enc Tryz.prog w base spare held fuel 26 cs = some x) : ∃ a b : Int, cs = [.int .i64 a, .int .i64 b] ∧ I64 a ∧ I64 b := by
  have ht := Tryz.underlying26
  obtain ⟨_, _, _, _, hlen, _, _⟩ := DataW.trod_struct ht h
  obtain ⟨n0, h0, w0⟩ := field_int ht h 0 _ rfl cells3 (by rw [cellsFrac]; decide) Tryz.underlying3
  obtain ⟨n1, h1, w1⟩ := field_int ht h 1 _ rfl cells3 (by rw [cellsFrac]; decide) Tryz.underlying3
  have hl : cs.length = 2 := hlen.trans cellsFrac
  match cs, hl with
  | [c0, c1], _ => simp at h0 h1; exact ⟨n0, n1, by rw [h0, h1], w0, w1⟩
set_option maxRecDepth 4000 in
theorem open_face {fuel : Nat} {cs : List Value} {x : DataW H × List MemPlace} (h : DataW.trod enc Tryz.prog w base spare held fuel 57 cs = some x) : ∃ p : ByteArray × Fc, cs = [.string p.1, .int .i64 p.2.fx, .int .i64 p.2.fz, .int .i64 p.2.tx, .int .i64 p.2.tz] := by
  have ht := Tryz.underlying57
  obtain ⟨_, _, _, _, hlen, _, _⟩ := DataW.trod_struct ht h
  obtain ⟨v, y, n, h0, h0'⟩ := field_one ht h 0 _ rfl cellsStr (by rw [cellsFace]; decide)
  obtain ⟨s, hs, _, _⟩ := DataW.trod_string Tryz.underlying9 h0'
  obtain ⟨y1, n1, h1⟩ := field_sub ht h 1 _ rfl
  obtain ⟨a, b, e1, _, _⟩ := open_spot h1
  obtain ⟨y2, n2, h2⟩ := field_sub ht h 2 _ rfl
  obtain ⟨a', b', e2, _, _⟩ := open_spot h2
  have hl : cs.length = 5 := hlen.trans cellsFace
  match cs, hl with
  | [c0, c1, c2, c3, c4], _ =>
    have e1' : (([c0, c1, c2, c3, c4] : List Value).drop 1).take (Tryz.prog.cellsOf 55) = [.int .i64 a, .int .i64 b] := e1
    have e2' : (([c0, c1, c2, c3, c4] : List Value).drop 3).take (Tryz.prog.cellsOf 55) = [.int .i64 a', .int .i64 b'] := e2
    clear e1 e2
    rw [cellsSpot] at e1' e2'
    simp at e1' e2' h0 hs
    exact ⟨(s, ⟨a, b, a', b'⟩), by rw [h0, hs, e1'.1, e1'.2, e2'.1, e2'.2]⟩
set_option maxRecDepth 4000 in
/-- Faces. -/
theorem open_faces {fuel : Nat} {v : Value} {x : DataW H × List MemPlace} (h : DataW.trod enc Tryz.prog w base spare held fuel 22 [v] = some x) :
    ∃ A fs c, v = .slice A fs.length c ∧ (A = none → c = 0) ∧ Row w w.heap.size 5 A fs.length (fcsC fs) ∧ fs.length ≤ c ∧ c ≤ maxLen := by
  rcases Deep.open_slice Tryz.underlying22 h with ⟨h1, _⟩ | ⟨a, len, cap, m, n, D, Pl, h1, hb, hl, hm, hmm, _, hx⟩
  · simp at h1
    exact ⟨none, [], 0, h1, fun _ => rfl, Row.nil_, Nat.le_refl _, Nat.zero_le _⟩
  · have hv : v = .slice (some a) len cap := by simpa using h1
    have hlm : len ≤ m := by rw [hmm]; split <;> omega
    letI : Inhabited (ByteArray × Fc) := ⟨(⟨#[]⟩, ⟨0, 0, 0, 0⟩)⟩
    obtain ⟨F, hF⟩ := Deep.choose_lt (α := ByteArray × Fc) (n := len) (p := fun i p => w.cells? base (a.add (i * 5)) 5 = some [.string p.1, .int .i64 p.2.fx, .int .i64 p.2.fz, .int .i64 p.2.tx, .int .i64 p.2.tz]) (fun i hi => by
      obtain ⟨cs', c1, c2⟩ := hx i (by omega)
      obtain ⟨p, hp⟩ := open_face c2
      rw [cellsFace, hp] at c1
      exact ⟨p, c1⟩)
    have hlen : ((List.range len).map F).length = len := by simp
    refine ⟨some a, (List.range len).map F, cap, by rw [hlen]; exact hv, (fun h => by cases h), ?_, by rw [hlen]; exact hl, hm⟩
    refine ⟨fcsC_length _, fun hpos => ?_⟩
    rw [hlen] at hpos
    have hcell : ∀ i, i < len → ∀ k, k < 5 → w.cell? (a.add (i * 5 + k)) = ([.string (F i).1, .int .i64 (F i).2.fx, .int .i64 (F i).2.fz, .int .i64 (F i).2.tx, .int .i64 (F i).2.tz] : List Value)[k]? := fun i hi k hk => by
      have := (World.cells?_some (hF i hi)).2.2 k hk
      rw [← Deep.add_add]; exact this
    have h0 := hcell 0 hpos 0 (by omega)
    obtain ⟨g, o, s⟩ := a
    have hs : s = none := by
      cases s with
      | none => rfl
      | some s => unfold Addr.add at h0; simp [World.cell?] at h0; split at h0 <;> simp at h0
    subst hs
    refine ⟨g, o, rfl, ?_, ?_⟩
    · have := World.block_lt_of_cell? _ _ h0
      rwa [block_add] at this
    · intro j u hu
      have hj : j < len * 5 := by
        have := (List.getElem?_eq_some_iff.1 hu).1
        rw [fcsC_length, hlen] at this; exact this
      have hk : j / 5 < len := by omega
      have hg := fcsC_get ((List.range len).map F) (j / 5) (F (j / 5)) (by simp [hk])
      have hc := hcell (j / 5) hk (j % 5) (Nat.mod_lt _ (by omega))
      have hjj : j / 5 * 5 + j % 5 = j := by omega
      rw [hjj, Addr.add_lit] at hc
      rw [hc]
      rcases (by omega : j % 5 = 0 ∨ j % 5 = 1 ∨ j % 5 = 2 ∨ j % 5 = 3 ∨ j % 5 = 4) with e | e | e | e | e <;> rw [e] at hjj ⊢
      · rw [← hjj] at hu; rw [Nat.add_zero] at hu; rw [hg.1] at hu; exact hu
      · rw [← hjj, hg.2.1] at hu; exact hu
      · rw [← hjj, hg.2.2.1] at hu; exact hu
      · rw [← hjj, hg.2.2.2.1] at hu; exact hu
      · rw [← hjj, hg.2.2.2.2] at hu; exact hu
end

section
variable {H : Type} {enc : TypeId × Value → H} {w : World} {r : Reach} {b0 base : Nat} {spare : Nat → Bool} {held : Bool} {v : Value} {d : DataW H} {ps : List MemPlace}
set_option maxRecDepth 4000 in
/-- A joint. -/
theorem open_joint (hval : Value.okWide Tryz.prog w r b0 24 v) (hd : DataW.Trod enc Tryz.prog w base spare held 24 v d ps) :
    ∃ (j : Jo) (A : Option Addr) (c : Nat), v = .agg (joC j A c) ∧ (A = none → c = 0) ∧ Row w w.heap.size 5 A j.fs.length (fcsC j.fs) ∧ j.fs.length ≤ c ∧ c ≤ maxLen ∧ I64 j.thick ∧ I64 j.zone := by
  have ht := Tryz.underlying24
  obtain ⟨cs, rfl, hcs⟩ := okWide_struct ht hval
  obtain ⟨n, h⟩ := hd
  have hc4 : cs.toList.length = 4 := by simpa using hcs.trans cellsJoint
  have h' : DataW.trod enc Tryz.prog w base spare held n 24 cs.toList = some (d, ps) := h
  obtain ⟨v0, y0, m0, h0, h0'⟩ := field_one ht h' 0 _ rfl cellsStr (by rw [cellsJoint]; decide)
  obtain ⟨s, hs, _, _⟩ := DataW.trod_string Tryz.underlying9 h0'
  obtain ⟨n1, h1, w1⟩ := field_int ht h' 1 _ rfl cells3 (by rw [cellsJoint]; decide) Tryz.underlying3
  obtain ⟨n2, h2, w2⟩ := field_int ht h' 2 _ rfl cells3 (by rw [cellsJoint]; decide) Tryz.underlying3
  obtain ⟨v3, y3, m3, h3, h3'⟩ := field_one ht h' 3 _ rfl cellsFaces (by rw [cellsJoint]; decide)
  obtain ⟨A, fs, c, hv3, hA, hR, hn, hm⟩ := open_faces h3'
  refine ⟨⟨s, n1, n2, fs⟩, A, c, ?_, hA, hR, hn, hm, w1, w2⟩
  have hl : cs.toList = [.string s, .int .i64 n1, .int .i64 n2, .slice A fs.length c] := by
    match hq : cs.toList, hc4 with
    | [c0, c1, c2, c3], _ =>
      rw [hq] at h0 h1 h2 h3
      simp at h0 h1 h2 h3 hs
      rw [h0, hs, h1, h2, h3, hv3]
  have : cs = #[.string s, .int .i64 n1, .int .i64 n2, .slice A fs.length c] := by apply Array.ext'; exact hl
  rw [this]; rfl
set_option maxRecDepth 4000 in
/-- What is asked for a bevelled joint. -/
theorem open_bevel (hval : Value.okWide Tryz.prog w r b0 28 v) (hd : DataW.Trod enc Tryz.prog w base spare held 28 v d ps) :
    ∃ (nm : ByteArray) (b : Bv), v = .agg (bvC nm b) ∧ b.wf := by
  have ht := Tryz.underlying28
  obtain ⟨cs, rfl, hcs⟩ := okWide_struct ht hval
  obtain ⟨n, h⟩ := hd
  have hc7 : cs.toList.length = 7 := by simpa using hcs.trans cellsBevel
  have h' : DataW.trod enc Tryz.prog w base spare held n 28 cs.toList = some (d, ps) := h
  obtain ⟨v0, y0, m0, h0, h0'⟩ := field_one ht h' 0 _ rfl cellsStr (by rw [cellsBevel]; decide)
  obtain ⟨s, hs, _, _⟩ := DataW.trod_string Tryz.underlying9 h0'
  obtain ⟨n1, h1, w1⟩ := field_int ht h' 1 _ rfl cells3 (by rw [cellsBevel]; decide) Tryz.underlying3
  obtain ⟨n2, h2, w2⟩ := field_int ht h' 2 _ rfl cells3 (by rw [cellsBevel]; decide) Tryz.underlying3
  obtain ⟨n3, h3, w3⟩ := field_int ht h' 3 _ rfl cells3 (by rw [cellsBevel]; decide) Tryz.underlying3
  obtain ⟨n4, h4, w4⟩ := field_int ht h' 4 _ rfl cells3 (by rw [cellsBevel]; decide) Tryz.underlying3
  obtain ⟨y5, m5, h5⟩ := field_sub ht h' 5 _ rfl
  obtain ⟨a, b, e5, wa, wb⟩ := open_frac h5
  refine ⟨s, ⟨n1, n2, n3, n4, a, b⟩, ?_, ⟨w1, w2, w3, w4, wa, wb⟩⟩
  have e5' : (cs.toList.drop 5).take (Tryz.prog.cellsOf 26) = [.int .i64 a, .int .i64 b] := e5
  clear e5
  rw [cellsFrac] at e5'
  have hl : cs.toList = [.string s, .int .i64 n1, .int .i64 n2, .int .i64 n3, .int .i64 n4, .int .i64 a, .int .i64 b] := by
    match hq : cs.toList, hc7 with
    | [c0, c1, c2, c3, c4, c5, c6], _ =>
      rw [hq] at h0 h1 h2 h3 h4 e5'
      simp at h0 h1 h2 h3 h4 hs e5'
      rw [h0, hs, h1, h2, h3, h4, e5'.1, e5'.2]
  have : cs = #[.string s, .int .i64 n1, .int .i64 n2, .int .i64 n3, .int .i64 n4, .int .i64 a, .int .i64 b] := by apply Array.ext'; exact hl
  rw [this]; rfl
end
end Go.Proofs.YtfbnpfhnffahdaaGreatDoor
