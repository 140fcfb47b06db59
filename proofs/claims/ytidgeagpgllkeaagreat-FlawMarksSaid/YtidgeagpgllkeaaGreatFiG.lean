/- Openers: an area, a grid. -/
import Derived.Test.YtidgeagpgllkeaaGreatFgC
import Derived.Test.YtidgeagpgllkeaaGreatFfO
import Derived.Test.YtidgeagpgllkeaaGreatFiB
namespace Go.Proofs.YtidgeagpgllkeaaGreat
open Go.ChangeShapes Go.WideShapes Go.ChangeAt Go.RowKit

theorem cellsTwo : Tryz.prog.cellsOf 25 = 2 := by kernel_rfl
theorem cellsTwos : Tryz.prog.cellsOf 87 = 1 := by kernel_rfl
theorem cellsArea : Tryz.prog.cellsOf 91 = 4 := by kernel_rfl
theorem cellsGrid : Tryz.prog.cellsOf 85 = 2 := by kernel_rfl
theorem cellsC_lenG (l : List (Int × Int)) : (cellsC l).length = l.length * 2 := cellsC_len l
section
variable {H : Type} {enc : TypeId × Value → H} {w : World} {base b0 : Nat} {spare : Nat → Bool} {held : Bool} {r : Reach} {v : Value} {d : DataW H} {ps : List MemPlace}
set_option maxRecDepth 4000 in
theorem open_two_ {fuel : Nat} {cs : List Value} {x : DataW H × List MemPlace} (h : DataW.trod enc Tryz.prog w base spare held fuel 25 cs = some x) : ∃ p : Int × Int, cs = [.int .i64 p.1, .int .i64 p.2] := by
  obtain ⟨_, _, _, _, hlen, _, _⟩ := DataW.trod_array Tryz.underlying25 h
  rw [cellsTwo] at hlen
  have hd : DataW.Trod enc Tryz.prog w base spare held 25 (.agg cs.toArray) x.1 x.2 := ⟨fuel, by simpa [Value.cells] using h⟩
  have h2 := arr_ints Tryz.underlying25 Tryz.underlying3 cells3 cellsTwo (xs := cs.toArray) (by simpa using hlen) hd
  obtain ⟨a, h0, _⟩ := h2 0 (by omega)
  obtain ⟨b, h1, _⟩ := h2 1 (by omega)
  refine ⟨(a, b), ?_⟩
  match cs, hlen with
  | [c0, c1], _ =>
    simp at h0 h1
    rw [h0, h1]
set_option maxRecDepth 4000 in
/-- A list of cells. -/
theorem open_cells_ {fuel : Nat} {v : Value} {x : DataW H × List MemPlace} (h : DataW.trod enc Tryz.prog w base spare held fuel 87 [v] = some x) :
    ∃ A l c, v = .slice A l.length c ∧ (A = none → c = 0) ∧ Row w w.heap.size 2 A l.length (cellsC l) ∧ l.length ≤ c ∧ c ≤ maxLen := by
  rcases Deep.open_slice Tryz.underlying87 h with ⟨h1, _⟩ | ⟨a, len, cap, m, n, D, Pl, h1, hb, hl, hm, hmm, _, hx⟩
  · simp at h1
    exact ⟨none, [], 0, h1, fun _ => rfl, Row.nil_, Nat.le_refl _, Nat.zero_le _⟩
  · have hv : v = .slice (some a) len cap := by simpa using h1
    have hlm : len ≤ m := by rw [hmm]; split <;> omega
    obtain ⟨F, hF⟩ := Deep.choose_lt (α := Int × Int) (n := len) (p := fun i p => w.cells? base (a.add (i * 2)) 2 = some [.int .i64 p.1, .int .i64 p.2]) (fun i hi => by
      obtain ⟨cs', c1, c2⟩ := hx i (by omega)
      obtain ⟨p, hp⟩ := open_two_ c2
      rw [cellsTwo, hp] at c1
      exact ⟨p, c1⟩)
    have hlen : ((List.range len).map F).length = len := by simp
    refine ⟨some a, (List.range len).map F, cap, by rw [hlen]; exact hv, (fun h => by cases h), ?_, by rw [hlen]; exact hl, hm⟩
    refine ⟨cellsC_lenG _, fun hpos => ?_⟩
    rw [hlen] at hpos
    have hcell : ∀ i, i < len → ∀ k, k < 2 → w.cell? (a.add (i * 2 + k)) = ([.int .i64 (F i).1, .int .i64 (F i).2] : List Value)[k]? := fun i hi k hk => by
      have := (World.cells?_some (hF i hi)).2.2 k hk
      rw [← Deep.add_add]; exact this
    have h0 := hcell 0 hpos 0 (by omega)
    obtain ⟨g, o, s⟩ := a
    have hs : s = none := by
      cases s with
      | none => rfl
      | some s => unfold Addr.add at h0; simp [World.cell?] at h0; split at h0 <;> simp at h0
    subst hs
    refine ⟨g, o, rfl, ?_, ?_⟩
    · have := World.block_lt_of_cell? _ _ h0
      rwa [block_of_add] at this
    · intro j u hu
      have hj : j < len * 2 := by
        have := (List.getElem?_eq_some_iff.1 hu).1
        rw [cellsC_lenG, hlen] at this; exact this
      have hk : j / 2 < len := by omega
      have hg := cellsC_get ((List.range len).map F) (j / 2) (F (j / 2)) (by simp [hk])
      have hc := hcell (j / 2) hk (j % 2) (Nat.mod_lt _ (by omega))
      have hjj : j / 2 * 2 + j % 2 = j := by omega
      rw [hjj, Addr.add_lit] at hc
      rw [hc]
      rcases (by omega : j % 2 = 0 ∨ j % 2 = 1) with e | e <;> rw [e] at hjj ⊢
      · rw [← hjj] at hu; rw [Nat.add_zero] at hu; rw [hg.1] at hu; exact hu
      · rw [← hjj, hg.2] at hu; exact hu
set_option maxRecDepth 4000 in
theorem open_area_ {fuel : Nat} {cs : List Value} {x : DataW H × List MemPlace} (h : DataW.trod enc Tryz.prog w base spare held fuel 91 cs = some x) :
    ∃ (A : Option Addr) (l : List (Int × Int)) (c : Nat) (pr pc lv : Int), cs = [.slice A l.length c, .int .i64 pr, .int .i64 pc, .int .i64 lv] ∧ (A = none → c = 0) ∧ Row w w.heap.size 2 A l.length (cellsC l) ∧ l.length ≤ c ∧ c ≤ maxLen := by
  have ht := Tryz.underlying91
  obtain ⟨_, _, _, _, hlen, _, _⟩ := DataW.trod_struct ht h
  obtain ⟨v0, y0, m0, h0, h0'⟩ := field_one ht h 0 _ rfl cellsTwos (by rw [cellsArea]; decide)
  obtain ⟨A, l, c, hv, hA, hR, hn, hm⟩ := open_cells_ h0'
  obtain ⟨y1, m1, h1⟩ := field_sub ht h 1 _ rfl
  obtain ⟨p, e1⟩ := open_two_ h1
  obtain ⟨n2, h2, _⟩ := field_int ht h 2 _ rfl cells3 (by rw [cellsArea]; decide) Tryz.underlying3
  have hl : cs.length = 4 := hlen.trans cellsArea
  have e1' : (cs.drop 1).take (Tryz.prog.cellsOf 25) = [.int .i64 p.1, .int .i64 p.2] := e1
  clear e1
  rw [cellsTwo] at e1'
  refine ⟨A, l, c, p.1, p.2, n2, ?_, hA, hR, hn, hm⟩
  match cs, hl with
  | [c0, c1, c2, c3], _ =>
    simp at h0 e1' h2
    rw [h0, e1'.1, e1'.2, h2, hv]
set_option maxRecDepth 4000 in
theorem open_area (hval : Value.okWide Tryz.prog w r b0 91 v) (hd : DataW.Trod enc Tryz.prog w base spare held 91 v d ps) :
    ∃ (A : Option Addr) (l : List (Int × Int)) (c : Nat) (pr pc lv : Int), v = .agg #[.slice A l.length c, .int .i64 pr, .int .i64 pc, .int .i64 lv] ∧ (A = none → c = 0) ∧ Row w w.heap.size 2 A l.length (cellsC l) ∧ l.length ≤ c ∧ c ≤ maxLen := by
  obtain ⟨xs, rfl, n, x, h⟩ := open_cells Tryz.underlying91 hval hd
  obtain ⟨A, l, c, pr, pc, lv, e, hA, hR, hn, hm⟩ := open_area_ h
  exact ⟨A, l, c, pr, pc, lv, by rw [arr_eq e], hA, hR, hn, hm⟩
set_option maxRecDepth 4000 in
theorem open_grid (hval : Value.okWide Tryz.prog w r b0 85 v) (hd : DataW.Trod enc Tryz.prog w base spare held 85 v d ps) : ∃ a b : Int, v = .agg #[.int .i64 a, .int .i64 b] := by
  have ht := Tryz.underlying85
  obtain ⟨xs, rfl, n, x, h⟩ := open_cells ht hval hd
  obtain ⟨_, _, _, _, hlen, _, _⟩ := DataW.trod_struct ht h
  obtain ⟨n0, h0, _⟩ := field_int ht h 0 _ rfl cells3 (by rw [cellsGrid]; decide) Tryz.underlying3
  obtain ⟨n1, h1, _⟩ := field_int ht h 1 _ rfl cells3 (by rw [cellsGrid]; decide) Tryz.underlying3
  have hl : xs.toList.length = 2 := hlen.trans cellsGrid
  refine ⟨n0, n1, ?_⟩
  rw [arr_eq (xs := xs) (l := [.int .i64 n0, .int .i64 n1]) ?_]
  match hq : xs.toList, hl with
  | [c0, c1], _ =>
    rw [hq] at h0 h1
    simp at h0 h1
    rw [h0, h1]
end
end Go.Proofs.YtidgeagpgllkeaaGreat
