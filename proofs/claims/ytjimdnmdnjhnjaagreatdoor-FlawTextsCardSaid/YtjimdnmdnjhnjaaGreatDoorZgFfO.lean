/- Openers: a mark, two marks, a list of marks. -/
import Derived.Test.YtjimdnmdnjhnjaaGreatDoorZgFdD
import Derived.Test.YtjimdnmdnjhnjaaGreatDoorZgFcD
namespace Go.Proofs.YtjimdnmdnjhnjaaGreatDoor
open Go.ChangeShapes Go.WideShapes Go.ChangeAt Go.RowKit

section
variable {H : Type} {enc : TypeId × Value → H} {w : World} {base b0 : Nat} {spare : Nat → Bool} {held : Bool} {r : Reach} {v : Value} {d : DataW H} {ps : List MemPlace}
set_option maxRecDepth 4000 in
theorem open_mark_ {fuel : Nat} {cs : List Value} {x : DataW H × List MemPlace} (h : DataW.trod enc Tryz.prog w base spare held fuel 25 cs = some x) : ∃ m : Mk, cs = (mkC m).toList ∧ m.nm.size ≤ maxLen := by
  have ht := Tryz.underlying25
  obtain ⟨_, _, _, _, hlen, _, _⟩ := DataW.trod_struct ht h
  obtain ⟨v0, y0, m0, h0, h0'⟩ := field_one ht h 0 _ rfl cellsStr (by rw [cellsMark]; decide)
  obtain ⟨s, hs, _, hsz⟩ := DataW.trod_string Tryz.underlying9 h0'
  obtain ⟨y1, m1, h1⟩ := field_sub ht h 1 _ rfl
  obtain ⟨a1, b1, e1, _, _⟩ := open_range_ h1
  obtain ⟨y2, m2, h2⟩ := field_sub ht h 2 _ rfl
  obtain ⟨a2, b2, e2, _, _⟩ := open_range_ h2
  obtain ⟨n3, h3, _⟩ := field_int ht h 3 _ rfl cells3 (by rw [cellsMark]; decide) Tryz.underlying3
  have hl : cs.length = 6 := hlen.trans cellsMark
  have e1' : (cs.drop 1).take (Tryz.prog.cellsOf 23) = [.int .i64 a1, .int .i64 b1] := e1
  have e2' : (cs.drop 3).take (Tryz.prog.cellsOf 23) = [.int .i64 a2, .int .i64 b2] := e2
  clear e1 e2
  rw [cellsRange] at e1' e2'
  refine ⟨⟨s, a1, b1, a2, b2, n3⟩, ?_, hsz⟩
  match cs, hl with
  | [c0, c1, c2, c3, c4, c5], _ =>
    simp at h0 hs e1' e2' h3
    rw [h0, hs, e1'.1, e1'.2, e2'.1, e2'.2, h3]
set_option maxRecDepth 4000 in
/-- A list of marks. -/
theorem open_marks_ {fuel : Nat} {v : Value} {x : DataW H × List MemPlace} (h : DataW.trod enc Tryz.prog w base spare held fuel 49 [v] = some x) :
    ∃ A l c, v = .slice A l.length c ∧ (A = none → c = 0) ∧ Row w w.heap.size 6 A l.length (mksC l) ∧ l.length ≤ c ∧ c ≤ maxLen ∧ ∀ m ∈ l, m.nm.size ≤ maxLen := by
  rcases Deep.open_slice Tryz.underlying49 h with ⟨h1, _⟩ | ⟨a, len, cap, m, n, D, Pl, h1, hb, hl, hm, hmm, _, hx⟩
  · simp at h1
    exact ⟨none, [], 0, h1, fun _ => rfl, Row.nil_, Nat.le_refl _, Nat.zero_le _, by simp⟩
  · have hv : v = .slice (some a) len cap := by simpa using h1
    have hlm : len ≤ m := by rw [hmm]; split <;> omega
    letI : Inhabited Mk := ⟨⟨⟨#[]⟩, 0, 0, 0, 0, 0⟩⟩
    obtain ⟨F, hF⟩ := Deep.choose_lt (α := Mk) (n := len) (p := fun i p => w.cells? base (a.add (i * 6)) 6 = some (mkC p).toList ∧ p.nm.size ≤ maxLen) (fun i hi => by
      obtain ⟨cs', c1, c2⟩ := hx i (by omega)
      obtain ⟨p, hp, hs⟩ := open_mark_ c2
      rw [cellsMark, hp] at c1
      exact ⟨p, c1, hs⟩)
    have hlen : ((List.range len).map F).length = len := by simp
    refine ⟨some a, (List.range len).map F, cap, by rw [hlen]; exact hv, (fun h => by cases h), ?_, by rw [hlen]; exact hl, hm, fun p hp => ?_⟩
    · refine ⟨mksC_length _, fun hpos => ?_⟩
      rw [hlen] at hpos
      have hcell : ∀ i, i < len → ∀ k, k < 6 → w.cell? (a.add (i * 6 + k)) = ((mkC (F i)).toList : List Value)[k]? := fun i hi k hk => by
        have := (World.cells?_some (hF i hi).1).2.2 k hk
        rw [← Deep.add_add]; exact this
      have h0 := hcell 0 hpos 0 (by omega)
      obtain ⟨g, o, s⟩ := a
      have hs : s = none := by
        cases s with
        | none => rfl
        | some s => unfold Addr.add at h0; simp [World.cell?] at h0; split at h0 <;> simp at h0
      subst hs
      refine ⟨g, o, rfl, ?_, ?_⟩
      · have := World.block_lt_of_cell? _ _ h0
        rwa [block_of_add] at this
      · intro j u hu
        have hj : j < len * 6 := by
          have := (List.getElem?_eq_some_iff.1 hu).1
          rw [mksC_length, hlen] at this; exact this
        have hk : j / 6 < len := by omega
        have hg := mksC_get ((List.range len).map F) (j / 6) (F (j / 6)) (by simp [hk])
        have hc := hcell (j / 6) hk (j % 6) (Nat.mod_lt _ (by omega))
        have hjj : j / 6 * 6 + j % 6 = j := by omega
        rw [hjj, Addr.add_lit] at hc
        rw [hc]
        rcases (by omega : j % 6 = 0 ∨ j % 6 = 1 ∨ j % 6 = 2 ∨ j % 6 = 3 ∨ j % 6 = 4 ∨ j % 6 = 5) with e | e | e | e | e | e <;> rw [e] at hjj ⊢
        · rw [← hjj] at hu; rw [Nat.add_zero] at hu; rw [hg.1] at hu; exact hu
        · rw [← hjj, hg.2.1] at hu; exact hu
        · rw [← hjj, hg.2.2.1] at hu; exact hu
        · rw [← hjj, hg.2.2.2.1] at hu; exact hu
        · rw [← hjj, hg.2.2.2.2.1] at hu; exact hu
        · rw [← hjj, hg.2.2.2.2.2] at hu; exact hu
    · obtain ⟨i, hi, rfl⟩ := List.mem_map.1 hp
      exact (hF i (List.mem_range.1 hi)).2
set_option maxRecDepth 4000 in
theorem open_marks (hval : Value.okWide Tryz.prog w r b0 49 v) (hd : DataW.Trod enc Tryz.prog w base spare held 49 v d ps) :
    ∃ A l c, v = .slice A l.length c ∧ (A = none → c = 0) ∧ Row w w.heap.size 6 A l.length (mksC l) ∧ l.length ≤ c ∧ c ≤ maxLen ∧ ∀ m ∈ l, m.nm.size ≤ maxLen := by
  obtain ⟨A, len, cap, rfl⟩ := okWide_slice Tryz.underlying49 hval
  obtain ⟨n, h⟩ := hd
  have h' : DataW.trod enc Tryz.prog w base spare held n 49 [.slice A len cap] = some (d, ps) := h
  exact open_marks_ h'
end
end Go.Proofs.YtjimdnmdnjhnjaaGreatDoor
