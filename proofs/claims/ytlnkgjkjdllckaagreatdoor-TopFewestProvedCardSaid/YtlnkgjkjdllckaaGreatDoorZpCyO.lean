/- Openers of the arguments of the statements: set-ups, a joint and a plan. -/
import Derived.Test.YtlnkgjkjdllckaaGreatDoorZpCwO
import Derived.Test.YtlnkgjkjdllckaaGreatDoorZpCyB
namespace Go.Proofs.YtlnkgjkjdllckaaGreatDoor
open Go.ChangeShapes Go.WideShapes Go.ChangeAt Go.RowKit

theorem cellsPlanned : Tryz.prog.cellsOf 27 = 5 := by kernel_rfl
theorem cellsSetups : Tryz.prog.cellsOf 25 = 1 := by kernel_rfl
section
variable {H : Type} {enc : TypeId × Value → H} {w : World} {base : Nat} {spare : Nat → Bool} {held : Bool}
set_option maxRecDepth 4000 in
theorem open_setup_' {fuel : Nat} {cs : List Value} {x : DataW H × List MemPlace} (h : DataW.trod enc Tryz.prog w base spare held fuel 34 cs = some x) :
    ∃ (sn : ByteArray) (s : Su), cs = [.string sn, .int .i64 s.at_, .int .i64 s.side, .int .i64 s.legs, .int .i64 s.ln, .int .i64 s.ld, .int .i64 s.mn, .int .i64 s.md, .int .i64 s.tn, .int .i64 s.td] ∧ s.wf ∧ sn.size ≤ maxLen := by
  have ht := Tryz.underlying34
  obtain ⟨_, _, _, _, hlen, _, _⟩ := DataW.trod_struct ht h
  obtain ⟨v, y, m, h0, h0'⟩ := field_one ht h 0 _ rfl cellsStr (by rw [cellsSetup]; decide)
  obtain ⟨sn, hs, _, hsn⟩ := DataW.trod_string Tryz.underlying9 h0'
  obtain ⟨n1, h1, w1⟩ := field_int ht h 1 _ rfl cells3 (by rw [cellsSetup]; decide) Tryz.underlying3
  obtain ⟨n2, h2, w2⟩ := field_int ht h 2 _ rfl cells3 (by rw [cellsSetup]; decide) Tryz.underlying3
  obtain ⟨n3, h3, w3⟩ := field_int ht h 3 _ rfl cells3 (by rw [cellsSetup]; decide) Tryz.underlying3
  obtain ⟨y4, m4, h4⟩ := field_sub ht h 4 _ rfl
  obtain ⟨a4, b4, e4, u4, v4⟩ := open_frac h4
  obtain ⟨y5, m5, h5⟩ := field_sub ht h 5 _ rfl
  obtain ⟨a5, b5, e5, u5, v5⟩ := open_frac h5
  obtain ⟨y6, m6, h6⟩ := field_sub ht h 6 _ rfl
  obtain ⟨a6, b6, e6, u6, v6⟩ := open_frac h6
  have hl : cs.length = 10 := hlen.trans cellsSetup
  match cs, hl with
  | [c0, c1, c2, c3, c4, c5, c6, c7, c8, c9], _ =>
    have e4' : (([c0, c1, c2, c3, c4, c5, c6, c7, c8, c9] : List Value).drop 4).take (Tryz.prog.cellsOf 32) = [.int .i64 a4, .int .i64 b4] := e4
    have e5' : (([c0, c1, c2, c3, c4, c5, c6, c7, c8, c9] : List Value).drop 6).take (Tryz.prog.cellsOf 32) = [.int .i64 a5, .int .i64 b5] := e5
    have e6' : (([c0, c1, c2, c3, c4, c5, c6, c7, c8, c9] : List Value).drop 8).take (Tryz.prog.cellsOf 32) = [.int .i64 a6, .int .i64 b6] := e6
    clear e4 e5 e6
    rw [cellsFrac] at e4' e5' e6'
    simp at e4' e5' e6' h0 h1 h2 h3 hs
    exact ⟨sn, ⟨n1, n2, n3, a4, b4, a5, b5, a6, b6⟩, by rw [h0, hs, h1, h2, h3, e4'.1, e4'.2, e5'.1, e5'.2, e6'.1, e6'.2], ⟨w1, w2, w3, u4, v4, u5, v5, u6, v6⟩, hsn⟩
set_option maxRecDepth 4000 in
/-- Set-ups. -/
theorem open_setups {fuel : Nat} {v : Value} {x : DataW H × List MemPlace} (h : DataW.trod enc Tryz.prog w base spare held fuel 25 [v] = some x) :
    ∃ A fs c, v = .slice A fs.length c ∧ (A = none → c = 0) ∧ Row w w.heap.size 10 A fs.length (sucsC fs) ∧ fs.length ≤ c ∧ c ≤ maxLen ∧ (∀ p ∈ fs, p.2.wf) ∧ ∀ p ∈ fs, p.1.size ≤ maxLen := by
  rcases Deep.open_slice Tryz.underlying25 h with ⟨h1, _⟩ | ⟨a, len, cap, m, n, D, Pl, h1, hb, hl, hm, hmm, _, hx⟩
  · simp at h1
    exact ⟨none, [], 0, h1, fun _ => rfl, Row.nil_, Nat.le_refl _, Nat.zero_le _, fun p hp => by simp at hp, fun p hp => by simp at hp⟩
  · have hv : v = .slice (some a) len cap := by simpa using h1
    have hlm : len ≤ m := by rw [hmm]; split <;> omega
    letI : Inhabited (ByteArray × Su) := ⟨(⟨#[]⟩, ⟨0, 0, 0, 0, 0, 0, 0, 0, 0⟩)⟩
    obtain ⟨F, hF⟩ := Deep.choose_lt (α := ByteArray × Su) (n := len) (p := fun i p => w.cells? base (a.add (i * 10)) 10 = some [.string p.1, .int .i64 p.2.at_, .int .i64 p.2.side, .int .i64 p.2.legs, .int .i64 p.2.ln, .int .i64 p.2.ld, .int .i64 p.2.mn, .int .i64 p.2.md, .int .i64 p.2.tn, .int .i64 p.2.td] ∧ p.2.wf ∧ p.1.size ≤ maxLen) (fun i hi => by
      obtain ⟨cs', c1, c2⟩ := hx i (by omega)
      obtain ⟨sn, s, hp, hws, hls⟩ := open_setup_' c2
      rw [cellsSetup, hp] at c1
      exact ⟨(sn, s), c1, hws, hls⟩)
    have hlen : ((List.range len).map F).length = len := by simp
    refine ⟨some a, (List.range len).map F, cap, by rw [hlen]; exact hv, (fun h => by cases h), ?_, by rw [hlen]; exact hl, hm, (by intro p hp; obtain ⟨i, hi, rfl⟩ := List.mem_map.1 hp; exact (hF i (List.mem_range.1 hi)).2.1), (by intro p hp; obtain ⟨i, hi, rfl⟩ := List.mem_map.1 hp; exact (hF i (List.mem_range.1 hi)).2.2)⟩
    refine ⟨sucsC_length _, fun hpos => ?_⟩
    rw [hlen] at hpos
    have hcell : ∀ i, i < len → ∀ k, k < 10 → w.cell? (a.add (i * 10 + k)) = ([.string (F i).1, .int .i64 (F i).2.at_, .int .i64 (F i).2.side, .int .i64 (F i).2.legs, .int .i64 (F i).2.ln, .int .i64 (F i).2.ld, .int .i64 (F i).2.mn, .int .i64 (F i).2.md, .int .i64 (F i).2.tn, .int .i64 (F i).2.td] : List Value)[k]? := fun i hi k hk => by
      have := (World.cells?_some (hF i hi).1).2.2 k hk
      rw [← Deep.add_add]; exact this
    have h0 := hcell 0 hpos 0 (by omega)
    obtain ⟨g, o, s⟩ := a
    have hs : s = none := by
      cases s with
      | none => rfl
      | some s => unfold Addr.add at h0; simp [World.cell?] at h0; split at h0 <;> simp at h0
    subst hs
    refine ⟨g, o, rfl, ?_, ?_⟩
    · have := World.block_lt_of_cell? _ _ h0
      rwa [block_add] at this
    · intro j u hu
      have hj : j < len * 10 := by
        have := (List.getElem?_eq_some_iff.1 hu).1
        rw [sucsC_length, hlen] at this; exact this
      have hk : j / 10 < len := by omega
      have hg := sucsC_get ((List.range len).map F) (j / 10) (F (j / 10)) (by simp [hk])
      have hc := hcell (j / 10) hk (j % 10) (Nat.mod_lt _ (by omega))
      have hjj : j / 10 * 10 + j % 10 = j := by omega
      rw [hjj, Addr.add_lit] at hc
      rw [hc]
      rcases (by omega : j % 10 = 0 ∨ j % 10 = 1 ∨ j % 10 = 2 ∨ j % 10 = 3 ∨ j % 10 = 4 ∨ j % 10 = 5 ∨ j % 10 = 6 ∨ j % 10 = 7 ∨ j % 10 = 8 ∨ j % 10 = 9) with e | e | e | e | e | e | e | e | e | e <;> rw [e] at hjj ⊢
      · rw [← hjj] at hu; rw [Nat.add_zero] at hu; rw [hg.1] at hu; exact hu
      · rw [← hjj] at hu; rw [hg.2.1] at hu; exact hu
      · rw [← hjj] at hu; rw [hg.2.2.1] at hu; exact hu
      · rw [← hjj] at hu; rw [hg.2.2.2.1] at hu; exact hu
      · rw [← hjj] at hu; rw [hg.2.2.2.2.1] at hu; exact hu
      · rw [← hjj] at hu; rw [hg.2.2.2.2.2.1] at hu; exact hu
      · rw [← hjj] at hu; rw [hg.2.2.2.2.2.2.1] at hu; exact hu
      · rw [← hjj] at hu; rw [hg.2.2.2.2.2.2.2.1] at hu; exact hu
      · rw [← hjj] at hu; rw [hg.2.2.2.2.2.2.2.2.1] at hu; exact hu
      · rw [← hjj] at hu; rw [hg.2.2.2.2.2.2.2.2.2] at hu; exact hu
set_option maxRecDepth 4000 in
/-- A joint in its cells. -/
theorem open_joint_ {fuel : Nat} {cs : List Value} {x : DataW H × List MemPlace} (h' : DataW.trod enc Tryz.prog w base spare held fuel 24 cs = some x) :
    ∃ (j : Jo) (A : Option Addr) (c : Nat), cs = [.string j.nm, .int .i64 j.thick, .int .i64 j.zone, .slice A j.fs.length c] ∧ (A = none → c = 0) ∧ Row w w.heap.size 5 A j.fs.length (fcsC j.fs) ∧ j.fs.length ≤ c ∧ c ≤ maxLen := by
  have ht := Tryz.underlying24
  obtain ⟨_, _, _, _, hlen, _, _⟩ := DataW.trod_struct ht h'
  have hc4 : cs.length = 4 := hlen.trans cellsJoint
  obtain ⟨v0, y0, m0, h0, h0'⟩ := field_one ht h' 0 _ rfl cellsStr (by rw [cellsJoint]; decide)
  obtain ⟨s, hs, _, _⟩ := DataW.trod_string Tryz.underlying9 h0'
  obtain ⟨n1, h1, w1⟩ := field_int ht h' 1 _ rfl cells3 (by rw [cellsJoint]; decide) Tryz.underlying3
  obtain ⟨n2, h2, w2⟩ := field_int ht h' 2 _ rfl cells3 (by rw [cellsJoint]; decide) Tryz.underlying3
  obtain ⟨v3, y3, m3, h3, h3'⟩ := field_one ht h' 3 _ rfl cellsFaces (by rw [cellsJoint]; decide)
  obtain ⟨A, fs, c, hv3, hA, hR, hn, hm⟩ := open_faces h3'
  refine ⟨⟨s, n1, n2, fs⟩, A, c, ?_, hA, hR, hn, hm⟩
  match cs, hc4 with
  | [c0, c1, c2, c3], _ =>
    simp at h0 h1 h2 h3 hs
    rw [h0, hs, h1, h2, h3, hv3]
end

section
variable {H : Type} {enc : TypeId × Value → H} {w : World} {r : Reach} {b0 base : Nat} {spare : Nat → Bool} {held : Bool} {v : Value} {d : DataW H} {ps : List MemPlace}
set_option maxRecDepth 4000 in
/-- A joint and a plan. -/
theorem open_planned (hval : Value.okWide Tryz.prog w r b0 27 v) (hd : DataW.Trod enc Tryz.prog w base spare held 27 v d ps) :
    ∃ (j : Jo) (A : Option Addr) (c : Nat) (l : List (ByteArray × Su)) (A' : Option Addr) (c' : Nat), v = .agg (plC j A c A' c' l.length) ∧ (A = none → c = 0) ∧ Row w w.heap.size 5 A j.fs.length (fcsC j.fs) ∧ j.fs.length ≤ c ∧ c ≤ maxLen ∧
      (A' = none → c' = 0) ∧ Row w w.heap.size 10 A' l.length (sucsC l) ∧ l.length ≤ c' ∧ c' ≤ maxLen ∧ (∀ p ∈ l, p.2.wf) ∧ ∀ p ∈ l, p.1.size ≤ maxLen := by
  have ht := Tryz.underlying27
  obtain ⟨cs, rfl, hcs⟩ := okWide_struct ht hval
  obtain ⟨n, h⟩ := hd
  have hc5 : cs.toList.length = 5 := by simpa using hcs.trans cellsPlanned
  have h' : DataW.trod enc Tryz.prog w base spare held n 27 cs.toList = some (d, ps) := h
  obtain ⟨y0, m0, h0⟩ := field_sub ht h' 0 _ rfl
  obtain ⟨j, A, c, hj, hA, hR, hn, hm⟩ := open_joint_ h0
  obtain ⟨v4, y4, m4, h4, h4'⟩ := field_one ht h' 1 _ rfl cellsSetups (by rw [cellsPlanned]; decide)
  obtain ⟨A', l, c', hv4, hA', hR', hn', hm', hw, hsz⟩ := open_setups h4'
  refine ⟨j, A, c, l, A', c', ?_, hA, hR, hn, hm, hA', hR', hn', hm', hw, hsz⟩
  have hj' : (cs.toList.drop 0).take (Tryz.prog.cellsOf 24) = _ := hj
  rw [cellsJoint] at hj'
  have hl : cs.toList = (plC j A c A' c' l.length).toList := by
    match hq : cs.toList, hc5 with
    | [c0, c1, c2, c3, c4], _ =>
      rw [hq] at hj' h4
      simp at hj' h4
      simp [plC, hj', h4, hv4]
  have : cs = plC j A c A' c' l.length := by apply Array.ext'; exact hl
  rw [this]
end
end Go.Proofs.YtlnkgjkjdllckaaGreatDoor
