/- Openers: a set-up of an office as an argument. -/
import Derived.Test.YtmdbpkomanhpoaaGreatDoorRows
import Derived.WalkKit
import Derived.ProofKit
import Derived.OpenShut
import Derived.Deep.DeepHandedRow
import Derived.Deep.Slices
import Derived.Lib.LaidTab
import Derived.ReadAgain
import Derived.Carry
import Derived.Test.YtmdbpkomanhpoaaGreatDoorZqOvH
namespace Go.Proofs.YtmdbpkomanhpoaaGreatDoor
open Go.ChangeShapes Go.WideShapes Go.ChangeAt Go.RowKit

section
variable {H : Type} {enc : TypeId × Value → H} {P : Program} {w : World} {base : Nat} {spare : Nat → Bool} {held : Bool}

/-- A field of one cell. -/
theorem field_one {t : TypeId} {fs : Array Field} {fuel : Nat} {cs : List Value} {x : DataW H × List MemPlace} (ht : P.underlying t = some (.struct fs)) (h : DataW.trod enc P w base spare held fuel t cs = some x)
    (i : Nat) (f : Field) (hf : fs[i]? = some f) (hc : P.cellsOf f.type = 1) (hl : f.offset < P.cellsOf t) :
    ∃ v y n, cs[f.offset]? = some v ∧ DataW.trod enc P w base spare held n f.type [v] = some y := by
  obtain ⟨xs, n, _, rfl, hlen, hxs, hg⟩ := DataW.trod_struct ht h
  have h1 := hg i f hf
  have hi : i < xs.length := by rw [hxs]; exact (Array.getElem?_eq_some_iff.1 hf).1
  rw [List.getElem?_eq_getElem hi, hc] at h1
  have hlo : f.offset < cs.length := by omega
  have hd : (cs.drop f.offset).take 1 = [cs[f.offset]] := by
    rw [List.drop_eq_getElem_cons hlo]; rfl
  rw [hd] at h1
  exact ⟨cs[f.offset], xs[i], n, List.getElem?_eq_getElem hlo, h1⟩
theorem field_int {t : TypeId} {fs : Array Field} {fuel : Nat} {cs : List Value} {x : DataW H × List MemPlace} (ht : P.underlying t = some (.struct fs)) (h : DataW.trod enc P w base spare held fuel t cs = some x)
    (i : Nat) (f : Field) (hf : fs[i]? = some f) (hc : P.cellsOf f.type = 1) (hl : f.offset < P.cellsOf t) (he : P.underlying f.type = some (.int .i64)) :
    ∃ n, cs[f.offset]? = some (.int .i64 n) := by
  obtain ⟨v, y, n, h1, h2⟩ := field_one ht h i f hf hc hl
  obtain ⟨z, hz, _, hw⟩ := DataW.trod_int he h2
  obtain rfl : v = .int .i64 z := by simpa using hz
  exact ⟨z, h1⟩
theorem field_str {t : TypeId} {fs : Array Field} {fuel : Nat} {cs : List Value} {x : DataW H × List MemPlace} (ht : P.underlying t = some (.struct fs)) (h : DataW.trod enc P w base spare held fuel t cs = some x)
    (i : Nat) (f : Field) (hf : fs[i]? = some f) (hc : P.cellsOf f.type = 1) (hl : f.offset < P.cellsOf t) (he : P.underlying f.type = some .string) :
    ∃ s, cs[f.offset]? = some (.string s) := by
  obtain ⟨v, y, n, h1, h2⟩ := field_one ht h i f hf hc hl
  obtain ⟨s, hs, _, _⟩ := DataW.trod_string he h2
  obtain rfl : v = .string s := by simpa using hs
  exact ⟨s, h1⟩
/-- A field of several cells. -/
theorem field_sub {t : TypeId} {fs : Array Field} {fuel : Nat} {cs : List Value} {x : DataW H × List MemPlace} (ht : P.underlying t = some (.struct fs)) (h : DataW.trod enc P w base spare held fuel t cs = some x)
    (i : Nat) (f : Field) (hf : fs[i]? = some f) :
    ∃ y n, DataW.trod enc P w base spare held n f.type ((cs.drop f.offset).take (P.cellsOf f.type)) = some y := by
  obtain ⟨xs, n, _, rfl, hlen, hxs, hg⟩ := DataW.trod_struct ht h
  have hi : i < xs.length := by rw [hxs]; exact (Array.getElem?_eq_some_iff.1 hf).1
  have h1 := hg i f hf
  rw [List.getElem?_eq_getElem hi] at h1
  exact ⟨xs[i], n, h1⟩
/-- A slice of things of k cells. -/
theorem open_rowsG {α : Type} (x0 : α) {f : α → List Value} {k : Nat} (hf : ∀ a, (f a).length = k) (hk : 0 < k) {tS tE : TypeId} (hS : P.underlying tS = some (.slice tE)) (hc : P.cellsOf tE = k) {R : α → Prop}
    (ho : ∀ {fuel cs} {x : DataW H × List MemPlace}, DataW.trod enc P w base spare held fuel tE cs = some x → ∃ a, cs = f a ∧ R a) {fuel : Nat} {v : Value} {x : DataW H × List MemPlace} (h : DataW.trod enc P w base spare held fuel tS [v] = some x) :
    ∃ A l c, v = .slice A l.length c ∧ (A = none → c = 0) ∧ Row w w.heap.size k A l.length (rowsC f l) ∧ l.length ≤ c ∧ c ≤ maxLen ∧ ∀ a ∈ l, R a := by
  rcases Deep.open_slice hS h with ⟨h1, _⟩ | ⟨a, len, cap, m, n, D, Pl, h1, hb, hl, hm, hmm, _, hx⟩
  · simp at h1
    exact ⟨none, [], 0, h1, fun _ => rfl, Row.nil_, Nat.le_refl _, Nat.zero_le _, by simp⟩
  · have hv : v = .slice (some a) len cap := by simpa using h1
    have hlm : len ≤ m := by rw [hmm]; split <;> omega
    letI : Inhabited α := ⟨x0⟩
    obtain ⟨F, hF⟩ := Deep.choose_lt (α := α) (n := len) (p := fun i p => w.cells? base (a.add (i * k)) k = some (f p) ∧ R p) (fun i hi => by
      obtain ⟨cs', c1, c2⟩ := hx i (by omega)
      obtain ⟨p, hp, hs⟩ := ho c2
      rw [hc, hp] at c1
      exact ⟨p, c1, hs⟩)
    have hlen : ((List.range len).map F).length = len := by simp
    refine ⟨some a, (List.range len).map F, cap, by rw [hlen]; exact hv, (fun h => by cases h), ?_, by rw [hlen]; exact hl, hm, fun p hp => ?_⟩
    · refine ⟨rowsC_length hf _, fun hpos => ?_⟩
      rw [hlen] at hpos
      have hcell : ∀ i, i < len → ∀ j, j < k → w.cell? (a.add (i * k + j)) = (f (F i))[j]? := fun i hi j hj => by
        have := (World.cells?_some (hF i hi).1).2.2 j hj
        rw [← Deep.add_add]; exact this
      have h0 := hcell 0 hpos 0 hk
      rw [List.getElem?_eq_getElem (by rw [hf]; exact hk)] at h0
      obtain ⟨g, o, s⟩ := a
      have hs : s = none := by
        cases s with
        | none => rfl
        | some s => unfold Addr.add at h0; simp [World.cell?] at h0; split at h0 <;> simp at h0
      subst hs
      refine ⟨g, o, rfl, ?_, ?_⟩
      · have := World.block_lt_of_cell? _ _ h0
        rwa [block_of_add] at this
      · intro j u hu
        have hj : j < len * k := by
          have := (List.getElem?_eq_some_iff.1 hu).1
          rw [rowsC_length hf, hlen] at this; exact this
        have hd : j / k < len := (Nat.div_lt_iff_lt_mul hk).2 hj
        have hmod : j % k < k := Nat.mod_lt _ hk
        have hjj : j / k * k + j % k = j := Nat.div_add_mod' j k
        have hg := rowsC_get hf ((List.range len).map F) (j / k) (F (j / k)) (by simp [hd]) (j % k) hmod
        have hcj := hcell (j / k) hd (j % k) hmod
        rw [hjj] at hg hcj
        rw [Addr.add_lit] at hcj
        rw [hcj, ← hg]
        exact hu
    · obtain ⟨i, hi, rfl⟩ := List.mem_map.1 hp
      exact (hF i (List.mem_range.1 hi)).2
end

theorem cellsI : Tryz.prog.cellsOf 3 = 1 := by kernel_rfl
theorem cellsS : Tryz.prog.cellsOf 9 = 1 := by kernel_rfl
theorem cellsPe : Tryz.prog.cellsOf 104 = 2 := by kernel_rfl
theorem cellsLv : Tryz.prog.cellsOf 111 = 2 := by kernel_rfl
theorem cellsRg : Tryz.prog.cellsOf 68 = 2 := by kernel_rfl
theorem cellsBx : Tryz.prog.cellsOf 101 = 12 := by kernel_rfl
theorem cellsRw : Tryz.prog.cellsOf 106 = 13 := by kernel_rfl
theorem cellsSt : Tryz.prog.cellsOf 109 = 4 := by kernel_rfl
theorem cellsCd : Tryz.prog.cellsOf 25 = 3 := by kernel_rfl
theorem cellsTk : Tryz.prog.cellsOf 28 = 4 := by kernel_rfl
theorem cellsGt : Tryz.prog.cellsOf 30 = 2 := by kernel_rfl
theorem cellsSe : Tryz.prog.cellsOf 33 = 13 := by kernel_rfl
theorem cellsIntsS : Tryz.prog.cellsOf 107 = 1 := by kernel_rfl
theorem cellsPeS : Tryz.prog.cellsOf 22 = 1 := by kernel_rfl
theorem cellsLvS : Tryz.prog.cellsOf 31 = 1 := by kernel_rfl
theorem cellsRwS : Tryz.prog.cellsOf 23 = 1 := by kernel_rfl
theorem cellsStS : Tryz.prog.cellsOf 26 = 1 := by kernel_rfl

section
variable {H : Type} {enc : TypeId × Value → H} {w : World} {base : Nat} {spare : Nat → Bool} {held : Bool}
set_option maxRecDepth 4000 in
theorem open_person {fuel : Nat} {cs : List Value} {x : DataW H × List MemPlace} (h : DataW.trod enc Tryz.prog w base spare held fuel 104 cs = some x) : ∃ p : Pe, cs = peF p ∧ True := by
  have ht := Tryz.underlying104
  obtain ⟨_, _, _, _, hlen, _, _⟩ := DataW.trod_struct ht h
  obtain ⟨s0, h0⟩ := field_str ht h 0 _ rfl cellsS (by rw [cellsPe]; decide) Tryz.underlying9
  obtain ⟨n1, h1⟩ := field_int ht h 1 _ rfl cellsI (by rw [cellsPe]; decide) Tryz.underlying3
  have hl : cs.length = 2 := hlen.trans cellsPe
  match cs, hl with
  | [c0, c1], _ => simp at h0 h1; exact ⟨⟨s0, n1⟩, by rw [h0, h1]; rfl, trivial⟩
set_option maxRecDepth 4000 in
theorem open_level {fuel : Nat} {cs : List Value} {x : DataW H × List MemPlace} (h : DataW.trod enc Tryz.prog w base spare held fuel 111 cs = some x) : ∃ p : Lv, cs = lvF p ∧ True := by
  have ht := Tryz.underlying111
  obtain ⟨_, _, _, _, hlen, _, _⟩ := DataW.trod_struct ht h
  obtain ⟨n0, h0⟩ := field_int ht h 0 _ rfl cellsI (by rw [cellsLv]; decide) Tryz.underlying3
  obtain ⟨n1, h1⟩ := field_int ht h 1 _ rfl cellsI (by rw [cellsLv]; decide) Tryz.underlying3
  have hl : cs.length = 2 := hlen.trans cellsLv
  match cs, hl with
  | [c0, c1], _ => simp at h0 h1; exact ⟨⟨n0, n1⟩, by rw [h0, h1]; rfl, trivial⟩
set_option maxRecDepth 4000 in
theorem open_rng {fuel : Nat} {cs : List Value} {x : DataW H × List MemPlace} (h : DataW.trod enc Tryz.prog w base spare held fuel 68 cs = some x) : ∃ a b : Int, cs = [.int .i64 a, .int .i64 b] := by
  have ht := Tryz.underlying68
  obtain ⟨_, _, _, _, hlen, _, _⟩ := DataW.trod_struct ht h
  obtain ⟨n0, h0⟩ := field_int ht h 0 _ rfl cellsI (by rw [cellsRg]; decide) Tryz.underlying3
  obtain ⟨n1, h1⟩ := field_int ht h 1 _ rfl cellsI (by rw [cellsRg]; decide) Tryz.underlying3
  have hl : cs.length = 2 := hlen.trans cellsRg
  match cs, hl with
  | [c0, c1], _ => simp at h0 h1; exact ⟨n0, n1, by rw [h0, h1]⟩
set_option maxRecDepth 4000 in
theorem open_track_ {fuel : Nat} {cs : List Value} {x : DataW H × List MemPlace} (h : DataW.trod enc Tryz.prog w base spare held fuel 28 cs = some x) : ∃ t : Tk, cs = (tkC t).toList := by
  have ht := Tryz.underlying28
  obtain ⟨_, _, _, _, hlen, _, _⟩ := DataW.trod_struct ht h
  obtain ⟨n0, h0⟩ := field_int ht h 0 _ rfl cellsI (by rw [cellsTk]; decide) Tryz.underlying3
  obtain ⟨n1, h1⟩ := field_int ht h 1 _ rfl cellsI (by rw [cellsTk]; decide) Tryz.underlying3
  obtain ⟨n2, h2⟩ := field_int ht h 2 _ rfl cellsI (by rw [cellsTk]; decide) Tryz.underlying3
  obtain ⟨n3, h3⟩ := field_int ht h 3 _ rfl cellsI (by rw [cellsTk]; decide) Tryz.underlying3
  have hl : cs.length = 4 := hlen.trans cellsTk
  match cs, hl with
  | [c0, c1, c2, c3], _ => simp at h0 h1 h2 h3; exact ⟨⟨n0, n1, n2, n3⟩, by rw [h0, h1, h2, h3]; rfl⟩
set_option maxRecDepth 4000 in
theorem open_gate_ {fuel : Nat} {cs : List Value} {x : DataW H × List MemPlace} (h : DataW.trod enc Tryz.prog w base spare held fuel 30 cs = some x) : ∃ a b : Int, cs = [.int .i64 a, .int .i64 b] := by
  have ht := Tryz.underlying30
  obtain ⟨_, _, _, _, hlen, _, _⟩ := DataW.trod_struct ht h
  obtain ⟨n0, h0⟩ := field_int ht h 0 _ rfl cellsI (by rw [cellsGt]; decide) Tryz.underlying3
  obtain ⟨n1, h1⟩ := field_int ht h 1 _ rfl cellsI (by rw [cellsGt]; decide) Tryz.underlying3
  have hl : cs.length = 2 := hlen.trans cellsGt
  match cs, hl with
  | [c0, c1], _ => simp at h0 h1; exact ⟨n0, n1, by rw [h0, h1]⟩
theorem open_int_ {fuel : Nat} {cs : List Value} {x : DataW H × List MemPlace} (h : DataW.trod enc Tryz.prog w base spare held fuel 3 cs = some x) : ∃ n : Int, cs = [.int .i64 n] ∧ True := by
  obtain ⟨z, hz, _, _⟩ := DataW.trod_int Tryz.underlying3 h
  exact ⟨z, hz, trivial⟩
theorem intsC_rows (l : List Int) : rowsC (fun n : Int => [Value.int .i64 n]) l = intsC l := by
  unfold rowsC intsC
  induction l with
  | nil => rfl
  | cons a l ih => rw [List.flatMap_cons, ih]; rfl
/-- A box: six ranges. -/
theorem open_box {fuel : Nat} {cs : List Value} {x : DataW H × List MemPlace} (h : DataW.trod enc Tryz.prog w base spare held fuel 101 cs = some x) : ∃ b : Nat → Int, cs = (bxC b).toList := by
  cases fuel with
  | zero => simp [DataW.trod] at h
  | succ fuel =>
    simp only [DataW.trod, Tryz.underlying101, cellsRg, cellsBx] at h
    split at h
    · rename_i hl
      obtain ⟨xs, hm, _⟩ := Option.map_eq_some_iff.1 h
      have hx : ∀ i, i < 6 → ∃ a b : Int, (cs.drop (i * 2)).take 2 = [.int .i64 a, .int .i64 b] := fun i hi => by
        obtain ⟨y, _, hy⟩ := Lib.mapM_at hm i i (by simp [hi])
        exact open_rng hy
      have hlen : cs.length = 12 := by simpa using hl
      obtain ⟨a0, b0, e0⟩ := hx 0 (by decide)
      obtain ⟨a1, b1, e1⟩ := hx 1 (by decide)
      obtain ⟨a2, b2, e2⟩ := hx 2 (by decide)
      obtain ⟨a3, b3, e3⟩ := hx 3 (by decide)
      obtain ⟨a4, b4, e4⟩ := hx 4 (by decide)
      obtain ⟨a5, b5, e5⟩ := hx 5 (by decide)
      refine ⟨fun i => [a0, b0, a1, b1, a2, b2, a3, b3, a4, b4, a5, b5].getD i 0, ?_⟩
      match cs, hlen with
      | [c0, c1, c2, c3, c4, c5, c6, c7, c8, c9, c10, c11], _ =>
        simp at e0 e1 e2 e3 e4 e5
        simp [e0, e1, e2, e3, e4, e5]
    · cases h
set_option maxRecDepth 4000 in
theorem open_row_ {fuel : Nat} {cs : List Value} {x : DataW H × List MemPlace} (h : DataW.trod enc Tryz.prog w base spare held fuel 106 cs = some x) : ∃ r : Rw, cs = rwF r ∧ True := by
  have ht := Tryz.underlying106
  obtain ⟨_, _, _, _, hlen, _, _⟩ := DataW.trod_struct ht h
  obtain ⟨y0, m0, h0⟩ := field_sub ht h 0 _ rfl
  obtain ⟨b, hb⟩ := open_box h0
  obtain ⟨n1, h1⟩ := field_int ht h 1 _ rfl cellsI (by rw [cellsRw]; decide) Tryz.underlying3
  have hb' : (cs.drop 0).take (Tryz.prog.cellsOf 101) = (bxC b).toList := hb
  rw [cellsBx] at hb'
  have hl : cs.length = 13 := hlen.trans cellsRw
  refine ⟨⟨b, n1⟩, ?_, trivial⟩
  match cs, hl with
  | [c0, c1, c2, c3, c4, c5, c6, c7, c8, c9, c10, c11, c12], _ =>
    simp at hb' h1
    simp [rwF, hb', h1]
/-- What is so of the steps of a set-up. -/
def StepR1 (w : World) (p : St) : Prop := Row w w.heap.size 1 p.A p.needs.length (intsC p.needs) ∧ (p.A = none → p.c = 0)
set_option maxRecDepth 4000 in
theorem open_step_ {fuel : Nat} {cs : List Value} {x : DataW H × List MemPlace} (h : DataW.trod enc Tryz.prog w base spare held fuel 109 cs = some x) : ∃ p : St, cs = stF p ∧ StepR1 w p := by
  have ht := Tryz.underlying109
  obtain ⟨_, _, _, _, hlen, _, _⟩ := DataW.trod_struct ht h
  obtain ⟨s0, h0⟩ := field_str ht h 0 _ rfl cellsS (by rw [cellsSt]; decide) Tryz.underlying9
  obtain ⟨n1, h1⟩ := field_int ht h 1 _ rfl cellsI (by rw [cellsSt]; decide) Tryz.underlying3
  obtain ⟨n2, h2⟩ := field_int ht h 2 _ rfl cellsI (by rw [cellsSt]; decide) Tryz.underlying3
  obtain ⟨v3, y3, m3, h3, h3'⟩ := field_one ht h 3 _ rfl cellsIntsS (by rw [cellsSt]; decide)
  obtain ⟨A, zs, c, hv, hA, hR, _, _, _⟩ := open_rowsG (P := Tryz.prog) (0 : Int) (f := fun n : Int => [Value.int .i64 n]) (fun _ => rfl) Nat.one_pos Tryz.underlying107 cellsI (fun h => open_int_ h) h3'
  rw [intsC_rows] at hR
  have hl : cs.length = 4 := hlen.trans cellsSt
  refine ⟨⟨s0, n1, n2, A, c, zs⟩, ?_, hR, hA⟩
  match cs, hl with
  | [c0, c1, c2, c3], _ =>
    simp at h0 h1 h2 h3
    rw [h0, h1, h2, h3, hv]
    rfl
set_option maxRecDepth 4000 in
theorem open_code_ {fuel : Nat} {cs : List Value} {x : DataW H × List MemPlace} (h : DataW.trod enc Tryz.prog w base spare held fuel 25 cs = some x) : ∃ (k : Cd) (eA : Option Addr) (ec : Nat) (rA : Option Addr) (rc : Nat), cs = [.string k.nm, .slice eA k.ex.length ec, .slice rA k.rows.length rc] ∧ (eA = none → ec = 0) ∧ (rA = none → rc = 0) ∧ Row w w.heap.size 13 eA k.ex.length (rowsC rwF k.ex) ∧ Row w w.heap.size 13 rA k.rows.length (rowsC rwF k.rows) := by
  have ht := Tryz.underlying25
  obtain ⟨_, _, _, _, hlen, _, _⟩ := DataW.trod_struct ht h
  obtain ⟨s0, h0⟩ := field_str ht h 0 _ rfl cellsS (by rw [cellsCd]; decide) Tryz.underlying9
  obtain ⟨v1, y1, m1, h1, h1'⟩ := field_one ht h 1 _ rfl cellsRwS (by rw [cellsCd]; decide)
  obtain ⟨v2, y2, m2, h2, h2'⟩ := field_one ht h 2 _ rfl cellsRwS (by rw [cellsCd]; decide)
  obtain ⟨eA, ex, ec, hv1, hA1, hR1, _, _, _⟩ := open_rowsG (P := Tryz.prog) (⟨fun _ => 0, 0⟩ : Rw) rwF_len (by decide) Tryz.underlying23 cellsRw (fun h => open_row_ h) h1'
  obtain ⟨rA, rows, rc, hv2, hA2, hR2, _, _, _⟩ := open_rowsG (P := Tryz.prog) (⟨fun _ => 0, 0⟩ : Rw) rwF_len (by decide) Tryz.underlying23 cellsRw (fun h => open_row_ h) h2'
  have hl : cs.length = 3 := hlen.trans cellsCd
  refine ⟨⟨s0, ex, rows⟩, eA, ec, rA, rc, ?_, hA1, hA2, hR1, hR2⟩
  match cs, hl with
  | [c0, c1, c2], _ =>
    simp at h0 h1 h2
    rw [h0, h1, h2, hv1, hv2]
end

section
variable {H : Type} {enc : TypeId × Value → H} {w : World} {r : Reach} {b0 base : Nat} {spare : Nat → Bool} {held : Bool} {v : Value} {d : DataW H} {ps : List MemPlace}
set_option maxRecDepth 4000 in
/-- A set-up. -/
theorem open_office (hval : Value.okWide Tryz.prog w r b0 33 v) (hd : DataW.Trod enc Tryz.prog w base spare held 33 v d ps) :
    ∃ (s : Se) (m : Me), v = .agg (seC s m) ∧ SeRaw s m w.heap.size w := by
  have ht := Tryz.underlying33
  obtain ⟨cs, rfl, hcs⟩ := okWide_struct ht hval
  obtain ⟨n, h⟩ := hd
  have hl : cs.toList.length = 13 := by simpa using hcs.trans cellsSe
  have h' : DataW.trod enc Tryz.prog w base spare held n 33 cs.toList = some (d, ps) := h
  obtain ⟨v0, y0, m0, h0, h0'⟩ := field_one ht h' 0 _ rfl cellsPeS (by rw [cellsSe]; decide)
  obtain ⟨pA, pe, pc, hv0, hA0, hR0, hn0, hm0, _⟩ := open_rowsG (P := Tryz.prog) (⟨⟨#[]⟩, 0⟩ : Pe) peF_len (by decide) Tryz.underlying22 cellsPe (fun h => open_person h) h0'
  obtain ⟨y1, m1, h1⟩ := field_sub ht h' 1 _ rfl
  obtain ⟨k, eA, ec, rA, rc, hk, heA, hrA, hRe, hRr⟩ := open_code_ h1
  obtain ⟨n2, h2⟩ := field_int ht h' 2 _ rfl cellsI (by rw [cellsSe]; decide) Tryz.underlying3
  obtain ⟨v3, y3, m3, h3, h3'⟩ := field_one ht h' 3 _ rfl cellsStS (by rw [cellsSe]; decide)
  obtain ⟨sA, st, sc, hv3, hA3, hR3, hn3, hm3, hP3⟩ := open_rowsG (P := Tryz.prog) (⟨⟨#[]⟩, 0, 0, none, 0, []⟩ : St) stF_len (by decide) Tryz.underlying26 cellsSt (fun h => open_step_ h) h3'
  obtain ⟨y4, m4, h4⟩ := field_sub ht h' 4 _ rfl
  obtain ⟨tk, htk⟩ := open_track_ h4
  obtain ⟨y5, m5, h5⟩ := field_sub ht h' 5 _ rfl
  obtain ⟨gf, gt, hgt⟩ := open_gate_ h5
  obtain ⟨v6, y6, m6, h6, h6'⟩ := field_one ht h' 6 _ rfl cellsLvS (by rw [cellsSe]; decide)
  obtain ⟨lA, lv, lc, hv6, hA6, hR6, hn6, hm6, _⟩ := open_rowsG (P := Tryz.prog) (⟨0, 0⟩ : Lv) lvF_len (by decide) Tryz.underlying31 cellsLv (fun h => open_level h) h6'
  have hk' : (cs.toList.drop 1).take (Tryz.prog.cellsOf 25) = _ := hk
  have ht' : (cs.toList.drop 6).take (Tryz.prog.cellsOf 28) = _ := htk
  have hg' : (cs.toList.drop 10).take (Tryz.prog.cellsOf 30) = _ := hgt
  rw [cellsCd] at hk'
  rw [cellsTk] at ht'
  rw [cellsGt] at hg'
  simp only [maxLen] at hm0 hm3 hm6
  refine ⟨⟨pe, k, n2, st, tk, gf, gt, lv⟩, ⟨pA, pc, eA, ec, rA, rc, sA, sc, lA, lc⟩, ?_, ⟨hR0, hRe, hRr, hR3, hP3, hR6, Nat.le_refl _, ⟨hn0, by omega, hA0⟩, heA, hrA, ⟨hn3, by omega, hA3⟩, ⟨hn6, by omega, hA6⟩⟩⟩
  have hcs2 : cs = cs.toList.toArray := by simp
  rw [hcs2]
  clear hk htk hgt hcs hval h h' hcs2
  match hq : cs.toList, hl with
  | [c0, c1, c2, c3, c4, c5, c6, c7, c8, c9, c10, c11, c12], _ =>
    rw [hq] at h0 h2 h3 h6 hk' ht' hg'
    unfold tkC at ht'
    simp at h0 h2 h3 h6 hk' ht' hg'
    rw [h0, h2, h3, h6, hv0, hv3, hv6, hk'.1, hk'.2.1, hk'.2.2, ht'.1, ht'.2.1, ht'.2.2.1, ht'.2.2.2, hg'.1, hg'.2]
end

theorem laidOut : laidOutB Tryz.prog = true := by kernel_rfl
/-- The arguments read behind a call as before, where below the heap's old size nothing has turned. -/
theorem args_below {H : Type} {enc : TypeId × Value → H} {W W' : World} (hb : Below W.heap.size W W') : ∀ {ts : List TypeId} {vs : List Value} {ds : List (DataW H)} {ps : List MemPlace},
    (∀ t ∈ ts, Tryz.prog.readableRec t = true ∧ t < Tryz.prog.types.size) → (∀ x ∈ ps, x.block < W.heap.size) → DataW.TrodAll enc Tryz.prog W 0 (fun _ => true) true ts vs ds ps → DataW.TrodAll enc Tryz.prog W' 0 (fun b => decide (b < W.heap.size)) true ts vs ds ps
  | [], [], [], _, _, _, h => h
  | [], [], _ :: _, _, _, _, h => h.elim
  | [], _ :: _, _, _, _, _, h => h.elim
  | _ :: _, [], _, _, _, _, h => h.elim
  | _ :: _, _ :: _, [], _, _, _, h => h.elim
  | t :: ts, v :: vs, d :: ds, ps, ht, hlt, h => by
    obtain ⟨p, q, h1, h2, rfl⟩ := h
    exact ⟨p, q, Below.trod laidOut (ht t (by simp)).1 (ht t (by simp)).2 h1 hb (fun x hx => hlt x (by simp [hx])), args_below hb (fun u hu => ht u (by simp [hu])) (fun x hx => hlt x (by simp [hx])) h2, rfl⟩
end Go.Proofs.YtmdbpkomanhpoaaGreatDoor
