/- The law OfficeSetups: its walk. Openers: a set-up of an office as an argument. -/
import Derived.Test.YtlbpogklkkninaaGreatDoorRows
import Derived.WalkKit
import Derived.ProofKit
import Derived.OpenShut
import Derived.Deep.DeepHandedRow
import Derived.Deep.Slices
import Derived.Lib.LaidTab
import Derived.ReadAgain
import Derived.Carry
import Derived.Test.YtlbpogklkkninaaGreatDoorZoOvG
import Derived.Test.YtlbpogklkkninaaGreatDoorZoOsZ
import Derived.Test.YtlbpogklkkninaaGreatDoorZoOsV
namespace Go.Proofs.YtlbpogklkkninaaGreatDoor
open Go.RowKit Go.Lib

/-- A set-up as an argument. -/
structure SeRaw (s : Se) (m : Me) (B : Nat) (w : World) : Prop where
  pe : Row w B 2 m.pA s.pe.length (rowsC peF s.pe)
  ex : Row w B 13 m.eA s.cd.ex.length (rowsC rwF s.cd.ex)
  rows : Row w B 13 m.rA s.cd.rows.length (rowsC rwF s.cd.rows)
  st : Row w B 4 m.sA s.st.length (rowsC stF s.st)
  nd : ∀ p ∈ s.st, Row w B 1 p.A p.needs.length (intsC p.needs) ∧ (p.A = none → p.c = 0)
  lv : Row w B 2 m.lA s.lv.length (rowsC lvF s.lv)
  base : B ≤ w.heap.size
  pl : s.pe.length ≤ m.pc ∧ m.pc ≤ 9223372036854775807 ∧ (m.pA = none → m.pc = 0)
  el : m.eA = none → m.ec = 0
  rl : m.rA = none → m.rc = 0
  sl : s.st.length ≤ m.sc ∧ m.sc ≤ 9223372036854775807 ∧ (m.sA = none → m.sc = 0)
  ll : s.lv.length ≤ m.lc ∧ m.lc ≤ 9223372036854775807 ∧ (m.lA = none → m.lc = 0)
theorem SeRaw.ok {s : Se} {m : Me} {B : Nat} {w : World} (h : SeRaw s m B w) (hs : SlOk s) : SeOk s m B w ∧ SeNil s m := by
  have h1 := hs.pe; have h2 := hs.nm; have h3 := hs.ex; have h4 := hs.rows; have h5 := hs.st; have h6 := hs.lv
  exact ⟨⟨⟨fun p hp => Nat.le_trans (hs.pn p hp) (by decide), h.pl.1, h.pl.2.1, h.pe, h.base⟩, ⟨by omega, by omega, by omega, h.ex, h.rows, h.el, h.rl, h.base⟩, ⟨fun p hp => Nat.le_trans (hs.sn p hp).1 (by decide), fun p hp => ⟨Nat.le_trans (hs.sn p hp).2 (by decide), (h.nd p hp).1⟩, h.sl.1, h.sl.2.1, h.st, h.base⟩, ⟨h.ll.1, h.ll.2.1, h.lv, h.base⟩⟩,
    ⟨h.pl.2.2, h.sl.2.2, h.ll.2.2, fun p hp => (h.nd p hp).2, by omega, by omega, by omega⟩⟩
set_option maxRecDepth 100000 in
set_option maxHeartbeats 4000000 in
theorem officeSetups_any (s : Se) (m : Me) (B : Nat) (w : World) (h : SeRaw s m B w) (hL : LibW w) (hQ : Quant w) (hT : Tz w) (hW : WordsW w) :
    Calls Tryz.prog 3 #[.agg (seC s m)] w fun e w' => e = .returned (.bool true) ∧ Below w.heap.size w w' := by
  have HR := Lib.hid h; have HB := Lib.hid h.base
  have b0 := Blk.new w 33 (seC s m)
  have hB0 : Below w.heap.size w (w.alloc (.cells (seC s m) 33)) := (by repeat (first | (with_reducible exact Below.refl _ _) | (with_reducible assumption) | ((with_reducible refine Below.setCell ?_ ?_ _); rotate_left; · (first | exact Nat.le_refl _ | (simp; done) | (simp; omega) | omega)) | ((with_reducible refine Below.alloc ?_ ?_ _); rotate_left; · (first | exact Nat.le_refl _ | (simp; done) | (simp; omega) | omega)) | (with_reducible apply Below.drew) | (with_reducible apply below_drewN') | (refine Below.trans ?_ (Below.mono (by assumption) (by first | exact Nat.le_refl _ | (simp; done) | (simp; omega) | omega))) | exact Below.refl _ _ | assumption))
  have HAW := Lib.hid (awake10_any _ (hL.below hB0 (Nat.le_refl _)) (hQ.below hB0 (Nat.le_refl _)) (hT.below hB0 (Nat.le_refl _)) (hW.below hB0 (Nat.le_refl _)))
  have HQ := Lib.hid hQ
  clear h hL hQ hT hW
  go_enter Tryz.func3, Tryz.ntmps3
  go_wp2_with fail
  refine HAW.out.mono ?_
  rintro e w1 ⟨rfl, hB1⟩
  have hBB : Below w.heap.size w w1 := hB0.trans (hB1.mono (by simp))
  replace b0 := b0.below hB1 b0.lt
  obtain ⟨c0, c1, c2, c3, c4, c5, c6, c7, c8, c9, c10, c11, c12, cf⟩ := blk13 b0
  have l0 := b0.lt
  clear hB0 hB1 HAW
  have HSL := Lib.hid (slight_any s m B w1 (HR.out.pe.below hBB HB.out) (HR.out.st.below hBB HB.out) (Nat.le_trans HB.out hBB.size))
  go_wp2_with fail
  refine HSL.out.mono ?_
  rintro e w2 ⟨⟨b, rfl, hb⟩, hB2⟩
  have hB3 : Below w.heap.size w w2 := hBB.trans (hB2.mono hBB.size)
  replace b0 := b0.below hB2 l0
  clear hBB hB2 HSL c0 c1 c2 c3 c4 c5 c6 c7 c8 c9 c10 c11 c12 cf l0
  cases b
  · clear hb
    go_wp2
    go_ret
    exact ⟨rfl, hB3⟩
  have hSO := HR.out.ok (hb rfl)
  have HSO := Lib.hid hSO
  clear hb hSO
  obtain ⟨c0, c1, c2, c3, c4, c5, c6, c7, c8, c9, c10, c11, c12, cf⟩ := blk13 b0
  have l0 := b0.lt
  have HCP := Lib.hid (copySetup_any s m B w2 (HSO.out.1.below hB3 HB.out) HSO.out.2)
  go_wp2_with fail
  refine HCP.out.mono ?_
  rintro e w3 ⟨q, m', rfl, hal, hs', _, hB4⟩
  have hB5 : Below w.heap.size w w3 := hB3.trans (hB4.mono hB3.size)
  replace b0 := b0.below hB4 l0
  have hEQ : setupE' ⟨s.pe, s.cd, s.thick, q, s.tk, s.gf, s.gt, s.lv⟩ = setupE' s := by unfold setupE'; dsimp only; rw [stepsE_alike hal]
  have HCS := Lib.hid (checkSetup_any' ⟨s.pe, s.cd, s.thick, q, s.tk, s.gf, s.gt, s.lv⟩ m' _ w3 hs' (HQ.out.below hB5 (Nat.le_refl _)))
  rw [hEQ] at HCS
  clear hEQ hal hs' hB3 hB4 HCP c0 c1 c2 c3 c4 c5 c6 c7 c8 c9 c10 c11 c12 cf l0
  go_wp2_with fail
  refine HCS.out.mono ?_
  rintro e w4 ⟨rfl, hB6⟩
  have hB7 : Below w.heap.size w w4 := hB5.trans (hB6.mono hB5.size)
  replace b0 := b0.below hB6 b0.lt
  obtain ⟨c0, c1, c2, c3, c4, c5, c6, c7, c8, c9, c10, c11, c12, cf⟩ := blk13 b0
  have l0 := b0.lt
  clear hB5 hB6 HCS
  have HRC := Lib.hid (rCheckSetup_any s m B w4 (HSO.out.1.below hB7 HB.out))
  generalize (setupE' s).1 = i1 at *
  generalize (setupE' s).2 = i2 at *
  go_wp2_with fail
  refine HRC.out.mono ?_
  rintro e w5 ⟨rfl, hB8⟩
  have hB9 : Below w.heap.size w w5 := hB7.trans (hB8.mono hB7.size)
  clear hB7 hB8 HRC c0 c1 c2 c3 c4 c5 c6 c7 c8 c9 c10 c11 c12 cf l0 b0
  go_wp2
  go_ret
  exact ⟨by simp, hB9⟩
end Go.Proofs.YtlbpogklkkninaaGreatDoor

namespace Go.Proofs.YtlbpogklkkninaaGreatDoor
open Go.ChangeShapes Go.WideShapes Go.ChangeAt Go.RowKit

section
variable {H : Type} {enc : TypeId × Value → H} {P : Program} {w : World} {base : Nat} {spare : Nat → Bool} {held : Bool}

/-- A field of one cell. -/
theorem field_one {t : TypeId} {fs : Array Field} {fuel : Nat} {cs : List Value} {x : DataW H × List MemPlace} (ht : P.underlying t = some (.struct fs)) (h : DataW.trod enc P w base spare held fuel t cs = some x)
    (i : Nat) (f : Field) (hf : fs[i]? = some f) (hc : P.cellsOf f.type = 1) (hl : f.offset < P.cellsOf t) :
    ∃ v y n, cs[f.offset]? = some v ∧ DataW.trod enc P w base spare held n f.type [v] = some y := by
  obtain ⟨xs, n, _, rfl, hlen, hxs, hg⟩ := DataW.trod_struct ht h
  have h1 := hg i f hf
  have hi : i < xs.length := by rw [hxs]; exact (Array.getElem?_eq_some_iff.1 hf).1
  rw [List.getElem?_eq_getElem hi, hc] at h1
  have hlo : f.offset < cs.length := by omega
  have hd : (cs.drop f.offset).take 1 = [cs[f.offset]] := by
    rw [List.drop_eq_getElem_cons hlo]; rfl
  rw [hd] at h1
  exact ⟨cs[f.offset], xs[i], n, List.getElem?_eq_getElem hlo, h1⟩
theorem field_int {t : TypeId} {fs : Array Field} {fuel : Nat} {cs : List Value} {x : DataW H × List MemPlace} (ht : P.underlying t = some (.struct fs)) (h : DataW.trod enc P w base spare held fuel t cs = some x)
    (i : Nat) (f : Field) (hf : fs[i]? = some f) (hc : P.cellsOf f.type = 1) (hl : f.offset < P.cellsOf t) (he : P.underlying f.type = some (.int .i64)) :
    ∃ n, cs[f.offset]? = some (.int .i64 n) := by
  obtain ⟨v, y, n, h1, h2⟩ := field_one ht h i f hf hc hl
  obtain ⟨z, hz, _, hw⟩ := DataW.trod_int he h2
  obtain rfl : v = .int .i64 z := by simpa using hz
  exact ⟨z, h1⟩
theorem field_str {t : TypeId} {fs : Array Field} {fuel : Nat} {cs : List Value} {x : DataW H × List MemPlace} (ht : P.underlying t = some (.struct fs)) (h : DataW.trod enc P w base spare held fuel t cs = some x)
    (i : Nat) (f : Field) (hf : fs[i]? = some f) (hc : P.cellsOf f.type = 1) (hl : f.offset < P.cellsOf t) (he : P.underlying f.type = some .string) :
    ∃ s, cs[f.offset]? = some (.string s) := by
  obtain ⟨v, y, n, h1, h2⟩ := field_one ht h i f hf hc hl
  obtain ⟨s, hs, _, _⟩ := DataW.trod_string he h2
  obtain rfl : v = .string s := by simpa using hs
  exact ⟨s, h1⟩
/-- A field of several cells. -/
theorem field_sub {t : TypeId} {fs : Array Field} {fuel : Nat} {cs : List Value} {x : DataW H × List MemPlace} (ht : P.underlying t = some (.struct fs)) (h : DataW.trod enc P w base spare held fuel t cs = some x)
    (i : Nat) (f : Field) (hf : fs[i]? = some f) :
    ∃ y n, DataW.trod enc P w base spare held n f.type ((cs.drop f.offset).take (P.cellsOf f.type)) = some y := by
  obtain ⟨xs, n, _, rfl, hlen, hxs, hg⟩ := DataW.trod_struct ht h
  have hi : i < xs.length := by rw [hxs]; exact (Array.getElem?_eq_some_iff.1 hf).1
  have h1 := hg i f hf
  rw [List.getElem?_eq_getElem hi] at h1
  exact ⟨xs[i], n, h1⟩
/-- A slice of things of k cells. -/
theorem open_rowsG {α : Type} (x0 : α) {f : α → List Value} {k : Nat} (hf : ∀ a, (f a).length = k) (hk : 0 < k) {tS tE : TypeId} (hS : P.underlying tS = some (.slice tE)) (hc : P.cellsOf tE = k) {R : α → Prop}
    (ho : ∀ {fuel cs} {x : DataW H × List MemPlace}, DataW.trod enc P w base spare held fuel tE cs = some x → ∃ a, cs = f a ∧ R a) {fuel : Nat} {v : Value} {x : DataW H × List MemPlace} (h : DataW.trod enc P w base spare held fuel tS [v] = some x) :
    ∃ A l c, v = .slice A l.length c ∧ (A = none → c = 0) ∧ Row w w.heap.size k A l.length (rowsC f l) ∧ l.length ≤ c ∧ c ≤ maxLen ∧ ∀ a ∈ l, R a := by
  rcases Deep.open_slice hS h with ⟨h1, _⟩ | ⟨a, len, cap, m, n, D, Pl, h1, hb, hl, hm, hmm, _, hx⟩
  · simp at h1
    exact ⟨none, [], 0, h1, fun _ => rfl, Row.nil_, Nat.le_refl _, Nat.zero_le _, by simp⟩
  · have hv : v = .slice (some a) len cap := by simpa using h1
    have hlm : len ≤ m := by rw [hmm]; split <;> omega
    letI : Inhabited α := ⟨x0⟩
    obtain ⟨F, hF⟩ := Deep.choose_lt (α := α) (n := len) (p := fun i p => w.cells? base (a.add (i * k)) k = some (f p) ∧ R p) (fun i hi => by
      obtain ⟨cs', c1, c2⟩ := hx i (by omega)
      obtain ⟨p, hp, hs⟩ := ho c2
      rw [hc, hp] at c1
      exact ⟨p, c1, hs⟩)
    have hlen : ((List.range len).map F).length = len := by simp
    refine ⟨some a, (List.range len).map F, cap, by rw [hlen]; exact hv, (fun h => by cases h), ?_, by rw [hlen]; exact hl, hm, fun p hp => ?_⟩
    · refine ⟨rowsC_length hf _, fun hpos => ?_⟩
      rw [hlen] at hpos
      have hcell : ∀ i, i < len → ∀ j, j < k → w.cell? (a.add (i * k + j)) = (f (F i))[j]? := fun i hi j hj => by
        have := (World.cells?_some (hF i hi).1).2.2 j hj
        rw [← Deep.add_add]; exact this
      have h0 := hcell 0 hpos 0 hk
      rw [List.getElem?_eq_getElem (by rw [hf]; exact hk)] at h0
      obtain ⟨g, o, s⟩ := a
      have hs : s = none := by
        cases s with
        | none => rfl
        | some s => unfold Addr.add at h0; simp [World.cell?] at h0; split at h0 <;> simp at h0
      subst hs
      refine ⟨g, o, rfl, ?_, ?_⟩
      · have := World.block_lt_of_cell? _ _ h0
        rwa [block_of_add] at this
      · intro j u hu
        have hj : j < len * k := by
          have := (List.getElem?_eq_some_iff.1 hu).1
          rw [rowsC_length hf, hlen] at this; exact this
        have hd : j / k < len := (Nat.div_lt_iff_lt_mul hk).2 hj
        have hmod : j % k < k := Nat.mod_lt _ hk
        have hjj : j / k * k + j % k = j := Nat.div_add_mod' j k
        have hg := rowsC_get hf ((List.range len).map F) (j / k) (F (j / k)) (by simp [hd]) (j % k) hmod
        have hcj := hcell (j / k) hd (j % k) hmod
        rw [hjj] at hg hcj
        rw [Addr.add_lit] at hcj
        rw [hcj, ← hg]
        exact hu
    · obtain ⟨i, hi, rfl⟩ := List.mem_map.1 hp
      exact (hF i (List.mem_range.1 hi)).2
end

theorem cellsI : Tryz.prog.cellsOf 3 = 1 := by kernel_rfl
theorem cellsS : Tryz.prog.cellsOf 9 = 1 := by kernel_rfl
theorem cellsPe : Tryz.prog.cellsOf 57 = 2 := by kernel_rfl
theorem cellsLv : Tryz.prog.cellsOf 75 = 2 := by kernel_rfl
theorem cellsRg : Tryz.prog.cellsOf 55 = 2 := by kernel_rfl
theorem cellsBx : Tryz.prog.cellsOf 107 = 12 := by kernel_rfl
theorem cellsRw : Tryz.prog.cellsOf 110 = 13 := by kernel_rfl
theorem cellsSt : Tryz.prog.cellsOf 60 = 4 := by kernel_rfl
theorem cellsCd : Tryz.prog.cellsOf 25 = 3 := by kernel_rfl
theorem cellsTk : Tryz.prog.cellsOf 28 = 4 := by kernel_rfl
theorem cellsGt : Tryz.prog.cellsOf 30 = 2 := by kernel_rfl
theorem cellsSe : Tryz.prog.cellsOf 33 = 13 := by kernel_rfl
theorem cellsIntsS : Tryz.prog.cellsOf 58 = 1 := by kernel_rfl
theorem cellsPeS : Tryz.prog.cellsOf 22 = 1 := by kernel_rfl
theorem cellsLvS : Tryz.prog.cellsOf 31 = 1 := by kernel_rfl
theorem cellsRwS : Tryz.prog.cellsOf 23 = 1 := by kernel_rfl
theorem cellsStS : Tryz.prog.cellsOf 26 = 1 := by kernel_rfl

section
variable {H : Type} {enc : TypeId × Value → H} {w : World} {base : Nat} {spare : Nat → Bool} {held : Bool}
set_option maxRecDepth 4000 in
theorem open_person {fuel : Nat} {cs : List Value} {x : DataW H × List MemPlace} (h : DataW.trod enc Tryz.prog w base spare held fuel 57 cs = some x) : ∃ p : Pe, cs = peF p ∧ True := by
  have ht := Tryz.underlying57
  obtain ⟨_, _, _, _, hlen, _, _⟩ := DataW.trod_struct ht h
  obtain ⟨s0, h0⟩ := field_str ht h 0 _ rfl cellsS (by rw [cellsPe]; decide) Tryz.underlying9
  obtain ⟨n1, h1⟩ := field_int ht h 1 _ rfl cellsI (by rw [cellsPe]; decide) Tryz.underlying3
  have hl : cs.length = 2 := hlen.trans cellsPe
  match cs, hl with
  | [c0, c1], _ => simp at h0 h1; exact ⟨⟨s0, n1⟩, by rw [h0, h1]; rfl, trivial⟩
set_option maxRecDepth 4000 in
theorem open_level {fuel : Nat} {cs : List Value} {x : DataW H × List MemPlace} (h : DataW.trod enc Tryz.prog w base spare held fuel 75 cs = some x) : ∃ p : Lv, cs = lvF p ∧ True := by
  have ht := Tryz.underlying75
  obtain ⟨_, _, _, _, hlen, _, _⟩ := DataW.trod_struct ht h
  obtain ⟨n0, h0⟩ := field_int ht h 0 _ rfl cellsI (by rw [cellsLv]; decide) Tryz.underlying3
  obtain ⟨n1, h1⟩ := field_int ht h 1 _ rfl cellsI (by rw [cellsLv]; decide) Tryz.underlying3
  have hl : cs.length = 2 := hlen.trans cellsLv
  match cs, hl with
  | [c0, c1], _ => simp at h0 h1; exact ⟨⟨n0, n1⟩, by rw [h0, h1]; rfl, trivial⟩
set_option maxRecDepth 4000 in
theorem open_rng {fuel : Nat} {cs : List Value} {x : DataW H × List MemPlace} (h : DataW.trod enc Tryz.prog w base spare held fuel 55 cs = some x) : ∃ a b : Int, cs = [.int .i64 a, .int .i64 b] := by
  have ht := Tryz.underlying55
  obtain ⟨_, _, _, _, hlen, _, _⟩ := DataW.trod_struct ht h
  obtain ⟨n0, h0⟩ := field_int ht h 0 _ rfl cellsI (by rw [cellsRg]; decide) Tryz.underlying3
  obtain ⟨n1, h1⟩ := field_int ht h 1 _ rfl cellsI (by rw [cellsRg]; decide) Tryz.underlying3
  have hl : cs.length = 2 := hlen.trans cellsRg
  match cs, hl with
  | [c0, c1], _ => simp at h0 h1; exact ⟨n0, n1, by rw [h0, h1]⟩
set_option maxRecDepth 4000 in
theorem open_track_ {fuel : Nat} {cs : List Value} {x : DataW H × List MemPlace} (h : DataW.trod enc Tryz.prog w base spare held fuel 28 cs = some x) : ∃ t : Tk, cs = (tkC t).toList := by
  have ht := Tryz.underlying28
  obtain ⟨_, _, _, _, hlen, _, _⟩ := DataW.trod_struct ht h
  obtain ⟨n0, h0⟩ := field_int ht h 0 _ rfl cellsI (by rw [cellsTk]; decide) Tryz.underlying3
  obtain ⟨n1, h1⟩ := field_int ht h 1 _ rfl cellsI (by rw [cellsTk]; decide) Tryz.underlying3
  obtain ⟨n2, h2⟩ := field_int ht h 2 _ rfl cellsI (by rw [cellsTk]; decide) Tryz.underlying3
  obtain ⟨n3, h3⟩ := field_int ht h 3 _ rfl cellsI (by rw [cellsTk]; decide) Tryz.underlying3
  have hl : cs.length = 4 := hlen.trans cellsTk
  match cs, hl with
  | [c0, c1, c2, c3], _ => simp at h0 h1 h2 h3; exact ⟨⟨n0, n1, n2, n3⟩, by rw [h0, h1, h2, h3]; rfl⟩
set_option maxRecDepth 4000 in
theorem open_gate_ {fuel : Nat} {cs : List Value} {x : DataW H × List MemPlace} (h : DataW.trod enc Tryz.prog w base spare held fuel 30 cs = some x) : ∃ a b : Int, cs = [.int .i64 a, .int .i64 b] := by
  have ht := Tryz.underlying30
  obtain ⟨_, _, _, _, hlen, _, _⟩ := DataW.trod_struct ht h
  obtain ⟨n0, h0⟩ := field_int ht h 0 _ rfl cellsI (by rw [cellsGt]; decide) Tryz.underlying3
  obtain ⟨n1, h1⟩ := field_int ht h 1 _ rfl cellsI (by rw [cellsGt]; decide) Tryz.underlying3
  have hl : cs.length = 2 := hlen.trans cellsGt
  match cs, hl with
  | [c0, c1], _ => simp at h0 h1; exact ⟨n0, n1, by rw [h0, h1]⟩
theorem open_int_ {fuel : Nat} {cs : List Value} {x : DataW H × List MemPlace} (h : DataW.trod enc Tryz.prog w base spare held fuel 3 cs = some x) : ∃ n : Int, cs = [.int .i64 n] ∧ True := by
  obtain ⟨z, hz, _, _⟩ := DataW.trod_int Tryz.underlying3 h
  exact ⟨z, hz, trivial⟩
theorem intsC_rows (l : List Int) : rowsC (fun n : Int => [Value.int .i64 n]) l = intsC l := by
  unfold rowsC intsC
  induction l with
  | nil => rfl
  | cons a l ih => rw [List.flatMap_cons, ih]; rfl
/-- A box: six ranges. -/
theorem open_box {fuel : Nat} {cs : List Value} {x : DataW H × List MemPlace} (h : DataW.trod enc Tryz.prog w base spare held fuel 107 cs = some x) : ∃ b : Nat → Int, cs = (bxC b).toList := by
  cases fuel with
  | zero => simp [DataW.trod] at h
  | succ fuel =>
    simp only [DataW.trod, Tryz.underlying107, cellsRg, cellsBx] at h
    split at h
    · rename_i hl
      obtain ⟨xs, hm, _⟩ := Option.map_eq_some_iff.1 h
      have hx : ∀ i, i < 6 → ∃ a b : Int, (cs.drop (i * 2)).take 2 = [.int .i64 a, .int .i64 b] := fun i hi => by
        obtain ⟨y, _, hy⟩ := Lib.mapM_at hm i i (by simp [hi])
        exact open_rng hy
      have hlen : cs.length = 12 := by simpa using hl
      obtain ⟨a0, b0, e0⟩ := hx 0 (by decide)
      obtain ⟨a1, b1, e1⟩ := hx 1 (by decide)
      obtain ⟨a2, b2, e2⟩ := hx 2 (by decide)
      obtain ⟨a3, b3, e3⟩ := hx 3 (by decide)
      obtain ⟨a4, b4, e4⟩ := hx 4 (by decide)
      obtain ⟨a5, b5, e5⟩ := hx 5 (by decide)
      refine ⟨fun i => [a0, b0, a1, b1, a2, b2, a3, b3, a4, b4, a5, b5].getD i 0, ?_⟩
      match cs, hlen with
      | [c0, c1, c2, c3, c4, c5, c6, c7, c8, c9, c10, c11], _ =>
        simp at e0 e1 e2 e3 e4 e5
        simp [e0, e1, e2, e3, e4, e5]
    · cases h
set_option maxRecDepth 4000 in
theorem open_row_ {fuel : Nat} {cs : List Value} {x : DataW H × List MemPlace} (h : DataW.trod enc Tryz.prog w base spare held fuel 110 cs = some x) : ∃ r : Rw, cs = rwF r ∧ True := by
  have ht := Tryz.underlying110
  obtain ⟨_, _, _, _, hlen, _, _⟩ := DataW.trod_struct ht h
  obtain ⟨y0, m0, h0⟩ := field_sub ht h 0 _ rfl
  obtain ⟨b, hb⟩ := open_box h0
  obtain ⟨n1, h1⟩ := field_int ht h 1 _ rfl cellsI (by rw [cellsRw]; decide) Tryz.underlying3
  have hb' : (cs.drop 0).take (Tryz.prog.cellsOf 107) = (bxC b).toList := hb
  rw [cellsBx] at hb'
  have hl : cs.length = 13 := hlen.trans cellsRw
  refine ⟨⟨b, n1⟩, ?_, trivial⟩
  match cs, hl with
  | [c0, c1, c2, c3, c4, c5, c6, c7, c8, c9, c10, c11, c12], _ =>
    simp at hb' h1
    simp [rwF, hb', h1]
/-- What is so of the steps of a set-up. -/
def StepR1 (w : World) (p : St) : Prop := Row w w.heap.size 1 p.A p.needs.length (intsC p.needs) ∧ (p.A = none → p.c = 0)
set_option maxRecDepth 4000 in
theorem open_step_ {fuel : Nat} {cs : List Value} {x : DataW H × List MemPlace} (h : DataW.trod enc Tryz.prog w base spare held fuel 60 cs = some x) : ∃ p : St, cs = stF p ∧ StepR1 w p := by
  have ht := Tryz.underlying60
  obtain ⟨_, _, _, _, hlen, _, _⟩ := DataW.trod_struct ht h
  obtain ⟨s0, h0⟩ := field_str ht h 0 _ rfl cellsS (by rw [cellsSt]; decide) Tryz.underlying9
  obtain ⟨n1, h1⟩ := field_int ht h 1 _ rfl cellsI (by rw [cellsSt]; decide) Tryz.underlying3
  obtain ⟨n2, h2⟩ := field_int ht h 2 _ rfl cellsI (by rw [cellsSt]; decide) Tryz.underlying3
  obtain ⟨v3, y3, m3, h3, h3'⟩ := field_one ht h 3 _ rfl cellsIntsS (by rw [cellsSt]; decide)
  obtain ⟨A, zs, c, hv, hA, hR, _, _, _⟩ := open_rowsG (P := Tryz.prog) (0 : Int) (f := fun n : Int => [Value.int .i64 n]) (fun _ => rfl) Nat.one_pos Tryz.underlying58 cellsI (fun h => open_int_ h) h3'
  rw [intsC_rows] at hR
  have hl : cs.length = 4 := hlen.trans cellsSt
  refine ⟨⟨s0, n1, n2, A, c, zs⟩, ?_, hR, hA⟩
  match cs, hl with
  | [c0, c1, c2, c3], _ =>
    simp at h0 h1 h2 h3
    rw [h0, h1, h2, h3, hv]
    rfl
set_option maxRecDepth 4000 in
theorem open_code_ {fuel : Nat} {cs : List Value} {x : DataW H × List MemPlace} (h : DataW.trod enc Tryz.prog w base spare held fuel 25 cs = some x) : ∃ (k : Cd) (eA : Option Addr) (ec : Nat) (rA : Option Addr) (rc : Nat), cs = [.string k.nm, .slice eA k.ex.length ec, .slice rA k.rows.length rc] ∧ (eA = none → ec = 0) ∧ (rA = none → rc = 0) ∧ Row w w.heap.size 13 eA k.ex.length (rowsC rwF k.ex) ∧ Row w w.heap.size 13 rA k.rows.length (rowsC rwF k.rows) := by
  have ht := Tryz.underlying25
  obtain ⟨_, _, _, _, hlen, _, _⟩ := DataW.trod_struct ht h
  obtain ⟨s0, h0⟩ := field_str ht h 0 _ rfl cellsS (by rw [cellsCd]; decide) Tryz.underlying9
  obtain ⟨v1, y1, m1, h1, h1'⟩ := field_one ht h 1 _ rfl cellsRwS (by rw [cellsCd]; decide)
  obtain ⟨v2, y2, m2, h2, h2'⟩ := field_one ht h 2 _ rfl cellsRwS (by rw [cellsCd]; decide)
  obtain ⟨eA, ex, ec, hv1, hA1, hR1, _, _, _⟩ := open_rowsG (P := Tryz.prog) (⟨fun _ => 0, 0⟩ : Rw) rwF_len (by decide) Tryz.underlying23 cellsRw (fun h => open_row_ h) h1'
  obtain ⟨rA, rows, rc, hv2, hA2, hR2, _, _, _⟩ := open_rowsG (P := Tryz.prog) (⟨fun _ => 0, 0⟩ : Rw) rwF_len (by decide) Tryz.underlying23 cellsRw (fun h => open_row_ h) h2'
  have hl : cs.length = 3 := hlen.trans cellsCd
  refine ⟨⟨s0, ex, rows⟩, eA, ec, rA, rc, ?_, hA1, hA2, hR1, hR2⟩
  match cs, hl with
  | [c0, c1, c2], _ =>
    simp at h0 h1 h2
    rw [h0, h1, h2, hv1, hv2]
end

section
variable {H : Type} {enc : TypeId × Value → H} {w : World} {r : Reach} {b0 base : Nat} {spare : Nat → Bool} {held : Bool} {v : Value} {d : DataW H} {ps : List MemPlace}
set_option maxRecDepth 4000 in
/-- A set-up. -/
theorem open_office (hval : Value.okWide Tryz.prog w r b0 33 v) (hd : DataW.Trod enc Tryz.prog w base spare held 33 v d ps) :
    ∃ (s : Se) (m : Me), v = .agg (seC s m) ∧ SeRaw s m w.heap.size w := by
  have ht := Tryz.underlying33
  obtain ⟨cs, rfl, hcs⟩ := okWide_struct ht hval
  obtain ⟨n, h⟩ := hd
  have hl : cs.toList.length = 13 := by simpa using hcs.trans cellsSe
  have h' : DataW.trod enc Tryz.prog w base spare held n 33 cs.toList = some (d, ps) := h
  obtain ⟨v0, y0, m0, h0, h0'⟩ := field_one ht h' 0 _ rfl cellsPeS (by rw [cellsSe]; decide)
  obtain ⟨pA, pe, pc, hv0, hA0, hR0, hn0, hm0, _⟩ := open_rowsG (P := Tryz.prog) (⟨⟨#[]⟩, 0⟩ : Pe) peF_len (by decide) Tryz.underlying22 cellsPe (fun h => open_person h) h0'
  obtain ⟨y1, m1, h1⟩ := field_sub ht h' 1 _ rfl
  obtain ⟨k, eA, ec, rA, rc, hk, heA, hrA, hRe, hRr⟩ := open_code_ h1
  obtain ⟨n2, h2⟩ := field_int ht h' 2 _ rfl cellsI (by rw [cellsSe]; decide) Tryz.underlying3
  obtain ⟨v3, y3, m3, h3, h3'⟩ := field_one ht h' 3 _ rfl cellsStS (by rw [cellsSe]; decide)
  obtain ⟨sA, st, sc, hv3, hA3, hR3, hn3, hm3, hP3⟩ := open_rowsG (P := Tryz.prog) (⟨⟨#[]⟩, 0, 0, none, 0, []⟩ : St) stF_len (by decide) Tryz.underlying26 cellsSt (fun h => open_step_ h) h3'
  obtain ⟨y4, m4, h4⟩ := field_sub ht h' 4 _ rfl
  obtain ⟨tk, htk⟩ := open_track_ h4
  obtain ⟨y5, m5, h5⟩ := field_sub ht h' 5 _ rfl
  obtain ⟨gf, gt, hgt⟩ := open_gate_ h5
  obtain ⟨v6, y6, m6, h6, h6'⟩ := field_one ht h' 6 _ rfl cellsLvS (by rw [cellsSe]; decide)
  obtain ⟨lA, lv, lc, hv6, hA6, hR6, hn6, hm6, _⟩ := open_rowsG (P := Tryz.prog) (⟨0, 0⟩ : Lv) lvF_len (by decide) Tryz.underlying31 cellsLv (fun h => open_level h) h6'
  have hk' : (cs.toList.drop 1).take (Tryz.prog.cellsOf 25) = _ := hk
  have ht' : (cs.toList.drop 6).take (Tryz.prog.cellsOf 28) = _ := htk
  have hg' : (cs.toList.drop 10).take (Tryz.prog.cellsOf 30) = _ := hgt
  rw [cellsCd] at hk'
  rw [cellsTk] at ht'
  rw [cellsGt] at hg'
  simp only [maxLen] at hm0 hm3 hm6
  refine ⟨⟨pe, k, n2, st, tk, gf, gt, lv⟩, ⟨pA, pc, eA, ec, rA, rc, sA, sc, lA, lc⟩, ?_, ⟨hR0, hRe, hRr, hR3, hP3, hR6, Nat.le_refl _, ⟨hn0, by omega, hA0⟩, heA, hrA, ⟨hn3, by omega, hA3⟩, ⟨hn6, by omega, hA6⟩⟩⟩
  have hcs2 : cs = cs.toList.toArray := by simp
  rw [hcs2]
  clear hk htk hgt hcs hval h h' hcs2
  match hq : cs.toList, hl with
  | [c0, c1, c2, c3, c4, c5, c6, c7, c8, c9, c10, c11, c12], _ =>
    rw [hq] at h0 h2 h3 h6 hk' ht' hg'
    unfold tkC at ht'
    simp at h0 h2 h3 h6 hk' ht' hg'
    rw [h0, h2, h3, h6, hv0, hv3, hv6, hk'.1, hk'.2.1, hk'.2.2, ht'.1, ht'.2.1, ht'.2.2.1, ht'.2.2.2, hg'.1, hg'.2]
end

theorem laidOut : laidOutB Tryz.prog = true := by kernel_rfl
/-- The arguments read behind a call as before, where below the heap's old size nothing has turned. -/
theorem args_below {H : Type} {enc : TypeId × Value → H} {W W' : World} (hb : Below W.heap.size W W') : ∀ {ts : List TypeId} {vs : List Value} {ds : List (DataW H)} {ps : List MemPlace},
    (∀ t ∈ ts, Tryz.prog.readableRec t = true ∧ t < Tryz.prog.types.size) → (∀ x ∈ ps, x.block < W.heap.size) → DataW.TrodAll enc Tryz.prog W 0 (fun _ => true) true ts vs ds ps → DataW.TrodAll enc Tryz.prog W' 0 (fun b => decide (b < W.heap.size)) true ts vs ds ps
  | [], [], [], _, _, _, h => h
  | [], [], _ :: _, _, _, _, h => h.elim
  | [], _ :: _, _, _, _, _, h => h.elim
  | _ :: _, [], _, _, _, _, h => h.elim
  | _ :: _, _ :: _, [], _, _, _, h => h.elim
  | t :: ts, v :: vs, d :: ds, ps, ht, hlt, h => by
    obtain ⟨p, q, h1, h2, rfl⟩ := h
    exact ⟨p, q, Below.trod laidOut (ht t (by simp)).1 (ht t (by simp)).2 h1 hb (fun x hx => hlt x (by simp [hx])), args_below hb (fun u hu => ht u (by simp [hu])) (fun x hx => hlt x (by simp [hx])) h2, rfl⟩
end Go.Proofs.YtlbpogklkkninaaGreatDoor
