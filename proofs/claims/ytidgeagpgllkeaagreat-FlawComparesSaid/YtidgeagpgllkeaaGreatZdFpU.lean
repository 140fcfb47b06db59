/- Openers: a mark, two marks, a list of marks. Openers: an area, a grid. The law FlawClaims answers true. Openers: two lists of marks, a claim. -/
import Derived.Test.YtidgeagpgllkeaaGreatZdFdD
import Derived.Test.YtidgeagpgllkeaaGreatZdFcD
import Derived.Test.YtidgeagpgllkeaaGreatZdFgC
import Derived.Test.YtidgeagpgllkeaaGreatZdFiB
import Derived.Test.YtidgeagpgllkeaaGreatZdFpS
namespace Go.Proofs.YtidgeagpgllkeaaGreat
open Go.ChangeShapes Go.WideShapes Go.ChangeAt Go.RowKit

section
variable {H : Type} {enc : TypeId × Value → H} {w : World} {base b0 : Nat} {spare : Nat → Bool} {held : Bool} {r : Reach} {v : Value} {d : DataW H} {ps : List MemPlace}
set_option maxRecDepth 4000 in
theorem open_mark_ {fuel : Nat} {cs : List Value} {x : DataW H × List MemPlace} (h : DataW.trod enc Tryz.prog w base spare held fuel 79 cs = some x) : ∃ m : Mk, cs = (mkC m).toList ∧ m.nm.size ≤ maxLen := by
  have ht := Tryz.underlying79
  obtain ⟨_, _, _, _, hlen, _, _⟩ := DataW.trod_struct ht h
  obtain ⟨v0, y0, m0, h0, h0'⟩ := field_one ht h 0 _ rfl cellsStr (by rw [cellsMark]; decide)
  obtain ⟨s, hs, _, hsz⟩ := DataW.trod_string Tryz.underlying9 h0'
  obtain ⟨y1, m1, h1⟩ := field_sub ht h 1 _ rfl
  obtain ⟨a1, b1, e1, _, _⟩ := open_range_ h1
  obtain ⟨y2, m2, h2⟩ := field_sub ht h 2 _ rfl
  obtain ⟨a2, b2, e2, _, _⟩ := open_range_ h2
  obtain ⟨n3, h3, _⟩ := field_int ht h 3 _ rfl cells3 (by rw [cellsMark]; decide) Tryz.underlying3
  have hl : cs.length = 6 := hlen.trans cellsMark
  have e1' : (cs.drop 1).take (Tryz.prog.cellsOf 48) = [.int .i64 a1, .int .i64 b1] := e1
  have e2' : (cs.drop 3).take (Tryz.prog.cellsOf 48) = [.int .i64 a2, .int .i64 b2] := e2
  clear e1 e2
  rw [cellsRange] at e1' e2'
  refine ⟨⟨s, a1, b1, a2, b2, n3⟩, ?_, hsz⟩
  match cs, hl with
  | [c0, c1, c2, c3, c4, c5], _ =>
    simp at h0 hs e1' e2' h3
    rw [h0, hs, e1'.1, e1'.2, e2'.1, e2'.2, h3]
set_option maxRecDepth 4000 in
/-- A list of marks. -/
theorem open_marks_ {fuel : Nat} {v : Value} {x : DataW H × List MemPlace} (h : DataW.trod enc Tryz.prog w base spare held fuel 60 [v] = some x) :
    ∃ A l c, v = .slice A l.length c ∧ (A = none → c = 0) ∧ Row w w.heap.size 6 A l.length (mksC l) ∧ l.length ≤ c ∧ c ≤ maxLen ∧ ∀ m ∈ l, m.nm.size ≤ maxLen := by
  rcases Deep.open_slice Tryz.underlying60 h with ⟨h1, _⟩ | ⟨a, len, cap, m, n, D, Pl, h1, hb, hl, hm, hmm, _, hx⟩
  · simp at h1
    exact ⟨none, [], 0, h1, fun _ => rfl, Row.nil_, Nat.le_refl _, Nat.zero_le _, by simp⟩
  · have hv : v = .slice (some a) len cap := by simpa using h1
    have hlm : len ≤ m := by rw [hmm]; split <;> omega
    letI : Inhabited Mk := ⟨⟨⟨#[]⟩, 0, 0, 0, 0, 0⟩⟩
    obtain ⟨F, hF⟩ := Deep.choose_lt (α := Mk) (n := len) (p := fun i p => w.cells? base (a.add (i * 6)) 6 = some (mkC p).toList ∧ p.nm.size ≤ maxLen) (fun i hi => by
      obtain ⟨cs', c1, c2⟩ := hx i (by omega)
      obtain ⟨p, hp, hs⟩ := open_mark_ c2
      rw [cellsMark, hp] at c1
      exact ⟨p, c1, hs⟩)
    have hlen : ((List.range len).map F).length = len := by simp
    refine ⟨some a, (List.range len).map F, cap, by rw [hlen]; exact hv, (fun h => by cases h), ?_, by rw [hlen]; exact hl, hm, fun p hp => ?_⟩
    · refine ⟨mksC_length _, fun hpos => ?_⟩
      rw [hlen] at hpos
      have hcell : ∀ i, i < len → ∀ k, k < 6 → w.cell? (a.add (i * 6 + k)) = ((mkC (F i)).toList : List Value)[k]? := fun i hi k hk => by
        have := (World.cells?_some (hF i hi).1).2.2 k hk
        rw [← Deep.add_add]; exact this
      have h0 := hcell 0 hpos 0 (by omega)
      obtain ⟨g, o, s⟩ := a
      have hs : s = none := by
        cases s with
        | none => rfl
        | some s => unfold Addr.add at h0; simp [World.cell?] at h0; split at h0 <;> simp at h0
      subst hs
      refine ⟨g, o, rfl, ?_, ?_⟩
      · have := World.block_lt_of_cell? _ _ h0
        rwa [block_of_add] at this
      · intro j u hu
        have hj : j < len * 6 := by
          have := (List.getElem?_eq_some_iff.1 hu).1
          rw [mksC_length, hlen] at this; exact this
        have hk : j / 6 < len := by omega
        have hg := mksC_get ((List.range len).map F) (j / 6) (F (j / 6)) (by simp [hk])
        have hc := hcell (j / 6) hk (j % 6) (Nat.mod_lt _ (by omega))
        have hjj : j / 6 * 6 + j % 6 = j := by omega
        rw [hjj, Addr.add_lit] at hc
        rw [hc]
        rcases (by omega : j % 6 = 0 ∨ j % 6 = 1 ∨ j % 6 = 2 ∨ j % 6 = 3 ∨ j % 6 = 4 ∨ j % 6 = 5) with e | e | e | e | e | e <;> rw [e] at hjj ⊢
        · rw [← hjj] at hu; rw [Nat.add_zero] at hu; rw [hg.1] at hu; exact hu
        · rw [← hjj, hg.2.1] at hu; exact hu
        · rw [← hjj, hg.2.2.1] at hu; exact hu
        · rw [← hjj, hg.2.2.2.1] at hu; exact hu
        · rw [← hjj, hg.2.2.2.2.1] at hu; exact hu
        · rw [← hjj, hg.2.2.2.2.2] at hu; exact hu
    · obtain ⟨i, hi, rfl⟩ := List.mem_map.1 hp
      exact (hF i (List.mem_range.1 hi)).2
end
end Go.Proofs.YtidgeagpgllkeaaGreat

namespace Go.Proofs.YtidgeagpgllkeaaGreat
open Go.ChangeShapes Go.WideShapes Go.ChangeAt Go.RowKit

theorem cellsTwo : Tryz.prog.cellsOf 25 = 2 := by kernel_rfl
theorem cellsTwos : Tryz.prog.cellsOf 87 = 1 := by kernel_rfl
theorem cellsC_lenG (l : List (Int × Int)) : (cellsC l).length = l.length * 2 := cellsC_len l
section
variable {H : Type} {enc : TypeId × Value → H} {w : World} {base b0 : Nat} {spare : Nat → Bool} {held : Bool} {r : Reach} {v : Value} {d : DataW H} {ps : List MemPlace}
set_option maxRecDepth 4000 in
theorem open_two_ {fuel : Nat} {cs : List Value} {x : DataW H × List MemPlace} (h : DataW.trod enc Tryz.prog w base spare held fuel 25 cs = some x) : ∃ p : Int × Int, cs = [.int .i64 p.1, .int .i64 p.2] := by
  obtain ⟨_, _, _, _, hlen, _, _⟩ := DataW.trod_array Tryz.underlying25 h
  rw [cellsTwo] at hlen
  have hd : DataW.Trod enc Tryz.prog w base spare held 25 (.agg cs.toArray) x.1 x.2 := ⟨fuel, by simpa [Value.cells] using h⟩
  have h2 := arr_ints Tryz.underlying25 Tryz.underlying3 cells3 cellsTwo (xs := cs.toArray) (by simpa using hlen) hd
  obtain ⟨a, h0, _⟩ := h2 0 (by omega)
  obtain ⟨b, h1, _⟩ := h2 1 (by omega)
  refine ⟨(a, b), ?_⟩
  match cs, hlen with
  | [c0, c1], _ =>
    simp at h0 h1
    rw [h0, h1]
set_option maxRecDepth 4000 in
/-- A list of cells. -/
theorem open_cells_ {fuel : Nat} {v : Value} {x : DataW H × List MemPlace} (h : DataW.trod enc Tryz.prog w base spare held fuel 87 [v] = some x) :
    ∃ A l c, v = .slice A l.length c ∧ (A = none → c = 0) ∧ Row w w.heap.size 2 A l.length (cellsC l) ∧ l.length ≤ c ∧ c ≤ maxLen := by
  rcases Deep.open_slice Tryz.underlying87 h with ⟨h1, _⟩ | ⟨a, len, cap, m, n, D, Pl, h1, hb, hl, hm, hmm, _, hx⟩
  · simp at h1
    exact ⟨none, [], 0, h1, fun _ => rfl, Row.nil_, Nat.le_refl _, Nat.zero_le _⟩
  · have hv : v = .slice (some a) len cap := by simpa using h1
    have hlm : len ≤ m := by rw [hmm]; split <;> omega
    obtain ⟨F, hF⟩ := Deep.choose_lt (α := Int × Int) (n := len) (p := fun i p => w.cells? base (a.add (i * 2)) 2 = some [.int .i64 p.1, .int .i64 p.2]) (fun i hi => by
      obtain ⟨cs', c1, c2⟩ := hx i (by omega)
      obtain ⟨p, hp⟩ := open_two_ c2
      rw [cellsTwo, hp] at c1
      exact ⟨p, c1⟩)
    have hlen : ((List.range len).map F).length = len := by simp
    refine ⟨some a, (List.range len).map F, cap, by rw [hlen]; exact hv, (fun h => by cases h), ?_, by rw [hlen]; exact hl, hm⟩
    refine ⟨cellsC_lenG _, fun hpos => ?_⟩
    rw [hlen] at hpos
    have hcell : ∀ i, i < len → ∀ k, k < 2 → w.cell? (a.add (i * 2 + k)) = ([.int .i64 (F i).1, .int .i64 (F i).2] : List Value)[k]? := fun i hi k hk => by
      have := (World.cells?_some (hF i hi)).2.2 k hk
      rw [← Deep.add_add]; exact this
    have h0 := hcell 0 hpos 0 (by omega)
    obtain ⟨g, o, s⟩ := a
    have hs : s = none := by
      cases s with
      | none => rfl
      | some s => unfold Addr.add at h0; simp [World.cell?] at h0; split at h0 <;> simp at h0
    subst hs
    refine ⟨g, o, rfl, ?_, ?_⟩
    · have := World.block_lt_of_cell? _ _ h0
      rwa [block_of_add] at this
    · intro j u hu
      have hj : j < len * 2 := by
        have := (List.getElem?_eq_some_iff.1 hu).1
        rw [cellsC_lenG, hlen] at this; exact this
      have hk : j / 2 < len := by omega
      have hg := cellsC_get ((List.range len).map F) (j / 2) (F (j / 2)) (by simp [hk])
      have hc := hcell (j / 2) hk (j % 2) (Nat.mod_lt _ (by omega))
      have hjj : j / 2 * 2 + j % 2 = j := by omega
      rw [hjj, Addr.add_lit] at hc
      rw [hc]
      rcases (by omega : j % 2 = 0 ∨ j % 2 = 1) with e | e <;> rw [e] at hjj ⊢
      · rw [← hjj] at hu; rw [Nat.add_zero] at hu; rw [hg.1] at hu; exact hu
      · rw [← hjj, hg.2] at hu; exact hu
end
end Go.Proofs.YtidgeagpgllkeaaGreat

namespace Go.Proofs.YtidgeagpgllkeaaGreat
open Go.RowKit

/-- A list of marks as an argument. -/
structure MkArg (l : List Mk) (A : Option Addr) (c : Nat) (w : World) : Prop where
  len : l.length ≤ 9223372036854775807
  row : Row w w.heap.size 6 A l.length (mksC l)
  size : Hid (∀ m ∈ l, m.nm.size ≤ 9223372036854775807)
  le : l.length ≤ c
  nil : A = none → c = 0
/-- A list of numbers or pairs as an argument. -/
structure RowArg (size : Nat) (xs : List Value) (n : Nat) (A : Option Addr) (c : Nat) (w : World) : Prop where
  row : Row w w.heap.size size A n xs
  le : n ≤ c
  nil : A = none → c = 0
theorem cpE_ok {l0 l1 : List Mk} {slack : Int} {P : List (Int × Int)} (h : openE l0 l1 slack = 0) : cpE l0 l1 slack P = pairsE l0.length l1.length (relV l0 l1 slack) P ∧ cpN l0 l1 slack P = prN (pairsE l0.length l1.length (relV l0 l1 slack) P) P := by
  have h1 : cpE l0 l1 slack P = pairsE l0.length l1.length (relV l0 l1 slack) P := by unfold cpE; rw [if_pos h]
  exact ⟨h1, by unfold cpN prN; rw [h1]⟩
theorem ccE_ok {l0 l1 : List Mk} {slack : Int} {Fl Sl : List Int} (h : openE l0 l1 slack = 0) : ccE l0 l1 slack Fl Sl = coverE l0.length l1.length (relV l0 l1 slack) Fl Sl ∧ ccN l0 l1 slack Fl Sl = covN (coverE l0.length l1.length (relV l0 l1 slack) Fl Sl) Fl Sl := by
  have h1 : ccE l0 l1 slack Fl Sl = coverE l0.length l1.length (relV l0 l1 slack) Fl Sl := by unfold ccE; rw [if_pos h]
  exact ⟨h1, by unfold ccN covN; rw [h1]⟩

end Go.Proofs.YtidgeagpgllkeaaGreat

namespace Go.Proofs.YtidgeagpgllkeaaGreat
open Go.ChangeShapes Go.WideShapes Go.ChangeAt Go.RowKit

section
variable {H : Type} {enc : TypeId × Value → H} {P : Program} {w : World} {base : Nat} {spare : Nat → Bool} {held : Bool}
/-- The cells of an array of one-cell elements. -/
theorem arr_one {k e : TypeId} {n : Nat} (hu : P.underlying k = some (.array n e)) (hc : P.cellsOf e = 1) (hs : P.cellsOf k = n) {xs : Array Value} (hn : xs.size = n) {d : DataW H} {ps : List MemPlace} (hd : DataW.Trod enc P w base spare held k (.agg xs) d ps) :
    ∀ i, i < n → ∃ v y m, xs[i]? = some v ∧ DataW.trod enc P w base spare held m e [v] = some y := by
  intro i hi
  obtain ⟨fuel, hf⟩ := hd
  cases fuel with
  | zero => simp [DataW.trod] at hf
  | succ m =>
    rw [DataW.trod_step] at hf
    unfold DataW.trodStep at hf
    simp only [hu, Value.cells] at hf
    rw [if_pos (by rw [hs]; simpa using hn)] at hf
    simp only [Option.map_eq_some_iff] at hf
    obtain ⟨ys, hy, _⟩ := hf
    obtain ⟨y, h1⟩ := mapM_all _ _ hy i (by simpa using hi)
    rw [hc] at h1
    have hlt : i < xs.toList.length := by simpa [hn] using hi
    have hdrop : (xs.toList.drop (i * 1)).take 1 = [xs[i]'(by simpa using hlt)] := by
      rw [Nat.mul_one, List.drop_eq_getElem_cons hlt]; simp
    rw [hdrop] at h1
    exact ⟨_, y, m, Array.getElem?_eq_getElem (by simpa using hlt), h1⟩
end
theorem cellsMarks : Tryz.prog.cellsOf 60 = 1 := by kernel_rfl
theorem cellsLists : Tryz.prog.cellsOf 124 = 2 := by kernel_rfl
theorem cellsCover : Tryz.prog.cellsOf 126 = 2 := by kernel_rfl
theorem cellsClaim : Tryz.prog.cellsOf 128 = 3 := by kernel_rfl
section
variable {H : Type} {enc : TypeId × Value → H} {w : World} {base b0 : Nat} {spare : Nat → Bool} {held : Bool} {r : Reach} {v : Value} {d : DataW H} {ps : List MemPlace}
set_option maxRecDepth 4000 in
theorem open_lists (hval : Value.okWide Tryz.prog w r b0 124 v) (hd : DataW.Trod enc Tryz.prog w base spare held 124 v d ps) :
    ∃ A0 l0 c0 A1 l1 c1, v = .agg #[.slice A0 (l0 : List Mk).length c0, .slice A1 (l1 : List Mk).length c1] ∧ MkArg l0 A0 c0 w ∧ MkArg l1 A1 c1 w := by
  obtain ⟨xs, rfl, hn⟩ := okWide_array Tryz.underlying124 cellsLists hval
  have h := arr_one Tryz.underlying124 cellsMarks cellsLists hn hd
  obtain ⟨v0, y0, m0, h0, t0⟩ := h 0 (by omega)
  obtain ⟨v1, y1, m1, h1, t1⟩ := h 1 (by omega)
  obtain ⟨A0, l0, c0, rfl, p1, p2, p3, p4, p5⟩ := open_marks_ t0
  obtain ⟨A1, l1, c1, rfl, q1, q2, q3, q4, q5⟩ := open_marks_ t1
  refine ⟨A0, l0, c0, A1, l1, c1, ?_, ⟨by unfold maxLen at p4; omega, p2, Lib.hid (fun m hm => by have := p5 m hm; unfold maxLen at this; omega), p3, p1⟩, ⟨by unfold maxLen at q4; omega, q2, Lib.hid (fun m hm => by have := q5 m hm; unfold maxLen at this; omega), q3, q1⟩⟩
  congr 1
  apply Array.ext_getElem?
  intro i
  match i with
  | 0 => exact h0
  | 1 => exact h1
  | i + 2 => rw [Array.getElem?_eq_none (by omega)]; rfl
set_option maxRecDepth 4000 in
theorem open_cover_ {fuel : Nat} {cs : List Value} {x : DataW H × List MemPlace} (h : DataW.trod enc Tryz.prog w base spare held fuel 126 cs = some x) :
    ∃ AF Fl cF AS Sl cS, cs = [.slice AF (Fl : List Int).length cF, .slice AS (Sl : List Int).length cS] ∧ RowArg 1 (intsC Fl) Fl.length AF cF w ∧ RowArg 1 (intsC Sl) Sl.length AS cS w := by
  have ht := Tryz.underlying126
  obtain ⟨_, _, _, _, hlen, _, _⟩ := DataW.trod_struct ht h
  obtain ⟨v0, y0, m0, h0, h0'⟩ := field_one ht h 0 _ rfl cellsInts (by rw [cellsCover]; decide)
  obtain ⟨v1, y1, m1, h1, h1'⟩ := field_one ht h 1 _ rfl cellsInts (by rw [cellsCover]; decide)
  obtain ⟨AF, Fl, cF, e0, p1, p2, _, p3, _⟩ := open_ints_ h0'
  obtain ⟨AS, Sl, cS, e1, q1, q2, _, q3, _⟩ := open_ints_ h1'
  have hl : cs.length = 2 := hlen.trans cellsCover
  refine ⟨AF, Fl, cF, AS, Sl, cS, ?_, ⟨p2, p3, p1⟩, ⟨q2, q3, q1⟩⟩
  match cs, hl with
  | [a, b], _ =>
    simp at h0 h1
    rw [h0, h1, e0, e1]
set_option maxRecDepth 4000 in
theorem open_claim (hval : Value.okWide Tryz.prog w r b0 128 v) (hd : DataW.Trod enc Tryz.prog w base spare held 128 v d ps) :
    ∃ A2 P c2 AF Fl cF AS Sl cS, v = .agg #[.slice A2 (P : List (Int × Int)).length c2, .slice AF (Fl : List Int).length cF, .slice AS (Sl : List Int).length cS] ∧ RowArg 2 (cellsC P) P.length A2 c2 w ∧ RowArg 1 (intsC Fl) Fl.length AF cF w ∧ RowArg 1 (intsC Sl) Sl.length AS cS w := by
  have ht := Tryz.underlying128
  obtain ⟨xs, rfl, n, x, h⟩ := open_cells ht hval hd
  obtain ⟨_, _, _, _, hlen, _, _⟩ := DataW.trod_struct ht h
  obtain ⟨v0, y0, m0, h0, h0'⟩ := field_one ht h 0 _ rfl cellsTwos (by rw [cellsClaim]; decide)
  obtain ⟨A2, P, c2, e0, p1, p2, p3, _⟩ := open_cells_ h0'
  obtain ⟨y1, m1, h1⟩ := field_sub ht h 1 _ rfl
  obtain ⟨AF, Fl, cF, AS, Sl, cS, e1, gF, gS⟩ := open_cover_ h1
  have hl : xs.toList.length = 3 := hlen.trans cellsClaim
  have e1' : (xs.toList.drop 1).take (Tryz.prog.cellsOf 126) = [.slice AF Fl.length cF, .slice AS Sl.length cS] := e1
  clear e1
  rw [cellsCover] at e1'
  refine ⟨A2, P, c2, AF, Fl, cF, AS, Sl, cS, ?_, ⟨p2, p3, p1⟩, gF, gS⟩
  rw [arr_eq (xs := xs) (l := [.slice A2 P.length c2, .slice AF Fl.length cF, .slice AS Sl.length cS]) ?_]
  match hq : xs.toList, hl with
  | [a, b, c], _ =>
    rw [hq] at h0 e1'
    simp at h0 e1'
    rw [h0, e0, e1'.1, e1'.2]
end
end Go.Proofs.YtidgeagpgllkeaaGreat
