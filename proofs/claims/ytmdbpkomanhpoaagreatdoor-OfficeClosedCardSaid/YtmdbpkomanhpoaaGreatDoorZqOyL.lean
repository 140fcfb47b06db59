/- Openers: entries and logs as arguments. What the listed variables hold. -/
import Derived.LaidMore
import Derived.LaidSub
import Derived.Lib.LaidTab
import Derived.Stop.LaidErr
import Derived.ProofKit
import Derived.OpenShut
import Derived.Stop.Joined
import Derived.Deep.DeepHandedRow
import Derived.Shelf.Vars
import Derived.Test.YtmdbpkomanhpoaaGreatDoorZqOvO
import Derived.Test.YtmdbpkomanhpoaaGreatDoorZqOyE
namespace Go.Proofs.YtmdbpkomanhpoaaGreatDoor
open Go.ChangeShapes Go.WideShapes Go.ChangeAt Go.RowKit

theorem cellsEn : Tryz.prog.cellsOf 36 = 2 := by kernel_rfl
section
variable {H : Type} {enc : TypeId × Value → H} {w : World} {base : Nat} {spare : Nat → Bool} {held : Bool}
set_option maxRecDepth 4000 in
theorem open_entry_ {fuel : Nat} {cs : List Value} {x : DataW H × List MemPlace} (h : DataW.trod enc Tryz.prog w base spare held fuel 36 cs = some x) : ∃ p : ByteArray × ByteArray, cs = enF p ∧ p.1.size ≤ maxLen ∧ p.2.size ≤ maxLen := by
  have ht := Tryz.underlying36
  obtain ⟨_, _, _, _, hlen, _, _⟩ := DataW.trod_struct ht h
  obtain ⟨v0, y0, m0, h0, h0'⟩ := field_one ht h 0 _ rfl cellsS (by rw [cellsEn]; decide)
  obtain ⟨s0, e0, _, z0⟩ := DataW.trod_string Tryz.underlying9 h0'
  obtain ⟨v1, y1, m1, h1, h1'⟩ := field_one ht h 1 _ rfl cellsS (by rw [cellsEn]; decide)
  obtain ⟨s1, e1, _, z1⟩ := DataW.trod_string Tryz.underlying9 h1'
  have hl : cs.length = 2 := hlen.trans cellsEn
  match cs, hl with
  | [c0, c1], _ => simp at h0 h1 e0 e1; exact ⟨(s0, s1), by rw [h0, h1, e0, e1]; rfl, z0, z1⟩
end
section
variable {H : Type} {enc : TypeId × Value → H} {w : World} {r : Reach} {b0 base : Nat} {spare : Nat → Bool} {held : Bool} {v : Value} {d : DataW H} {ps : List MemPlace}
set_option maxRecDepth 4000 in
/-- A log. -/
theorem open_log (hval : Value.okWide Tryz.prog w r b0 34 v) (hd : DataW.Trod enc Tryz.prog w base spare held 34 v d ps) :
    ∃ (A : Option Addr) (l : List (ByteArray × ByteArray)) (c : Nat), v = .slice A l.length c ∧ (A = none → c = 0) ∧ Row w w.heap.size 2 A l.length (rowsC enF l) ∧ l.length ≤ c ∧ c ≤ maxLen := by
  obtain ⟨A0, len0, cap0, rfl⟩ := okWide_slice Tryz.underlying34 hval
  obtain ⟨n0, h⟩ := hd
  obtain ⟨A, l, c, h1, h2, h3, h4, h5, _⟩ := open_rowsG (P := Tryz.prog) ((⟨#[]⟩, ⟨#[]⟩) : ByteArray × ByteArray) enF_len (by decide) Tryz.underlying34 cellsEn (fun h => open_entry_ h) h
  exact ⟨A, l, c, h1, h2, h3, h4, h5⟩
set_option maxRecDepth 4000 in
/-- An entry. -/
theorem open_entry (hval : Value.okWide Tryz.prog w r b0 36 v) (hd : DataW.Trod enc Tryz.prog w base spare held 36 v d ps) :
    ∃ xb xt : ByteArray, v = .agg #[.string xb, .string xt] := by
  have ht := Tryz.underlying36
  obtain ⟨cs, rfl, hcs⟩ := okWide_struct ht hval
  obtain ⟨n, h⟩ := hd
  obtain ⟨p, hp, _⟩ := open_entry_ (cs := cs.toList) h
  refine ⟨p.1, p.2, ?_⟩
  have : cs = #[.string p.1, .string p.2] := by apply Array.ext'; exact hp
  rw [this]
end
end Go.Proofs.YtmdbpkomanhpoaaGreatDoor

namespace Go.Proofs.YtmdbpkomanhpoaaGreatDoor.officeClosed
open Go.ChangeShapes Go.WideShapes Go.ChangeAt Go.RowKit

/-- A table of texts as a row lists it. -/
def strData {H : Type} (zs : List (List UInt8)) : DataW H := .agg (zs.map fun z => .lit (.string z))
theorem cells_of_strs {H : Type} {enc : TypeId × Value → H} {P : Program} {w : World} {base : Nat} {sp : Nat → Bool} {held : Bool} {fuel : Nat} {t e : TypeId} {n : Nat} {cs : List Value} {zs : List (List UInt8)} {p : List MemPlace}
    (ht : P.underlying t = some (.array n e)) (he : P.underlying e = some .string) (hce : P.cellsOf e = 1) (hct : P.cellsOf t = n)
    (h : DataW.trod enc P w base sp held fuel t cs = some (strData zs, p)) : cs = zs.map fun z => Value.string ⟨z.toArray⟩ := by
  cases fuel with
  | zero => simp [DataW.trod] at h
  | succ fuel =>
    simp only [DataW.trod, ht, hce, hct, Nat.mul_one] at h
    split at h
    · rename_i hl
      obtain ⟨xs, hm, hx⟩ := Option.map_eq_some_iff.1 h
      have hxs : xs.map (·.1) = zs.map fun z => (DataW.lit (.string z) : DataW H) := by
        have := congrArg Prod.fst hx
        simpa [strData] using this
      have hxl : xs.length = n := by simpa using Lib.mapM_length hm
      have hzl : zs.length = n := by
        have := congrArg List.length hxs
        simp at this
        omega
      apply List.ext_getElem?
      intro i
      by_cases hi : i < n
      · obtain ⟨b, hb, hf⟩ := Lib.mapM_at hm i i (by simp [hi])
        obtain ⟨z, hc, rfl, _⟩ := DataW.trod_string he hf
        have h1 : cs[i]? = some (.string z) := by
          have := congrArg (·[0]?) hc
          simpa [List.getElem?_take, List.getElem?_drop] using this
        have h2 : (xs.map (·.1))[i]? = some (DataW.lit (.string z.data.toList) : DataW H) := by simp [hb]
        rw [hxs] at h2
        simp only [List.getElem?_map, Option.map_eq_some_iff, DataW.lit.injEq, Lit.string.injEq] at h2
        obtain ⟨z', hz', e'⟩ := h2
        subst e'
        simp [h1, hz']
      · rw [List.getElem?_eq_none (by omega), List.getElem?_eq_none (by simp; omega)]
    · cases h
theorem strIs_of_head {P : Program} {W : World} {name : String} {zs : List (List UInt8)} {rest : List (String × DataW Unit)} {g : Nat} {t e : TypeId} {n : Nat}
    (hg : P.globalNamed name = some g) (hty : (P.globals[g]?).map (·.type) = some t) (ht : P.underlying t = some (.array n e)) (he : P.underlying e = some .string) (hce : P.cellsOf e = 1) (hct : P.cellsOf t = n)
    (h : laidMet P ((name, strData zs) :: rest) W) : W.var? P name = some (zs.map fun z => Value.string ⟨z.toArray⟩).toArray := by
  obtain ⟨ps, ⟨g', t', cs, fuel, p, q, hg', ht', hvar, hd, _, _⟩, _⟩ := h
  obtain rfl := Option.some.inj (hg.symm.trans hg')
  obtain rfl := Option.some.inj (hty.symm.trans ht')
  rw [hvar, ← cells_of_strs ht he hce hct hd]
theorem ownKnobNone : ownKnob Tryz.prog.godebug = none := by kernel_rfl
theorem starErr : "*" ++ "errors.errorString" = "*errors.errorString" := by decide
theorem rowErr (u : TypeId) (h : Tryz.prog.typeName? 3 u = some "*errors.errorString") : u = 299 :=
  typeName_ptr_named (nm := "errors.errorString") (by rw [starErr]; kernel_rfl) (by kernel_rfl) (by decide) u (by rw [starErr]; exact h)
theorem facts_of {W : World} (h : laidMetH Tryz.prog Rows.officeClosedRow.laid W) (hsh : W.ShapedOpen Tryz.prog) : LibW W ∧ Quant W ∧ Tz W ∧ WordsW W := by
  have h0 : laidMet Tryz.prog Rows.officeClosedRow.laid W := by
    rw [MakeChecks.laidMetH_plain _ _ _ (by kernel_rfl)] at h
    exact h
  have hp := h0.filter (fun x => x.1 == "internal/strconv.uint64pow10")
  have hr := h0.filter (fun x => x.1 == "strconv.ErrRange")
  have hs := h0.filter (fun x => x.1 == "strconv.ErrSyntax")
  have hq := h0.filter (fun x => x.1 == "couplant/code.quantities")
  have hz := h0.filter (fun x => x.1 == "math/bits.deBruijn64tab")
  have hd := h0.filter (fun x => x.1 == "couplant/office.decisionWords")
  have hv := h0.filter (fun x => x.1 == "couplant/office.verdictWords")
  rw [show (Rows.officeClosedRow.laid.filter fun x => x.1 == "internal/strconv.uint64pow10") = [("internal/strconv.uint64pow10", Lib.tabData .u64 Lib.pow10Tab)] from by kernel_rfl] at hp
  rw [show (Rows.officeClosedRow.laid.filter fun x => x.1 == "strconv.ErrRange") = [("strconv.ErrRange", Rows.laid_strconv_ErrRange)] from by kernel_rfl] at hr
  rw [show (Rows.officeClosedRow.laid.filter fun x => x.1 == "strconv.ErrSyntax") = [("strconv.ErrSyntax", Rows.laid_strconv_ErrSyntax)] from by kernel_rfl] at hs
  rw [show (Rows.officeClosedRow.laid.filter fun x => x.1 == "couplant/code.quantities") = [("couplant/code.quantities", Lib.tabData .i64 [9, 20000, 20000, 20000, 100000, 200])] from by kernel_rfl] at hq
  rw [show (Rows.officeClosedRow.laid.filter fun x => x.1 == "math/bits.deBruijn64tab") = [("math/bits.deBruijn64tab", Lib.tabData .u8 (Lib.deBruijn64tab.map Int.ofNat))] from by kernel_rfl] at hz
  rw [show (Rows.officeClosedRow.laid.filter fun x => x.1 == "couplant/office.decisionWords") = [("couplant/office.decisionWords", strData [[97, 99, 99, 101, 112, 116], [114, 101, 106, 101, 99, 116], [114, 101, 112, 101, 97, 116]])] from by kernel_rfl] at hd
  rw [show (Rows.officeClosedRow.laid.filter fun x => x.1 == "couplant/office.verdictWords") = [("couplant/office.verdictWords", strData [[110, 111], [109, 97, 121, 98, 101], [121, 101, 115]])] from by kernel_rfl] at hv
  have hpow : Lib.TabIs Tryz.prog W "internal/strconv.uint64pow10" .u64 Lib.pow10Tab :=
    Lib.tabIs_of_head (g := 4) (t := 253) (e := 223) (n := 20) (by kernel_rfl) (by kernel_rfl) Tryz.underlying253 Tryz.underlying223 (by kernel_rfl) (by kernel_rfl) hp
  have hqu : Lib.TabIs Tryz.prog W "couplant/code.quantities" .i64 [9, 20000, 20000, 20000, 100000, 200] :=
    Lib.tabIs_of_head (g := 3) (t := 92) (e := 3) (n := 6) (by kernel_rfl) (by kernel_rfl) Tryz.underlying92 Tryz.underlying3 (by kernel_rfl) (by kernel_rfl) hq
  have htz : Lib.TabIs Tryz.prog W "math/bits.deBruijn64tab" .u8 (Lib.deBruijn64tab.map Int.ofNat) :=
    Lib.tabIs_of_head (g := 7) (t := 281) (e := 5) (n := 64) (by kernel_rfl) (by kernel_rfl) Tryz.underlying281 Tryz.underlying5 (by kernel_rfl) (by kernel_rfl) hz
  have hdw := strIs_of_head (P := Tryz.prog) (g := 1) (t := 98) (e := 9) (n := 3) (by kernel_rfl) (by kernel_rfl) Tryz.underlying98 Tryz.underlying9 (by kernel_rfl) (by kernel_rfl) hd
  have hvw := strIs_of_head (P := Tryz.prog) (g := 0) (t := 98) (e := 9) (n := 3) (by kernel_rfl) (by kernel_rfl) Tryz.underlying98 Tryz.underlying9 (by kernel_rfl) (by kernel_rfl) hv
  obtain ⟨a1, s1, hv1, _, _, _⟩ := laid_sentinel hs (g := 8) (ti := 87) (tp := 299) (te := 301) (ts := 9) (by kernel_rfl) (by kernel_rfl) Tryz.underlying87 rowErr Tryz.underlying299 Tryz.underlying301 rfl rfl Tryz.underlying9 (by kernel_rfl) (by kernel_rfl)
  obtain ⟨a2, s2, hv2, _, _, _⟩ := laid_sentinel hr (g := 9) (ti := 87) (tp := 299) (te := 301) (ts := 9) (by kernel_rfl) (by kernel_rfl) Tryz.underlying87 rowErr Tryz.underlying299 Tryz.underlying301 rfl rfl Tryz.underlying9 (by kernel_rfl) (by kernel_rfl)
  have hc1 := World.var?_cell (g := 8) (by kernel_rfl) hv1 0
  have hc2 := World.var?_cell (g := 9) (by kernel_rfl) hv2 0
  obtain ⟨m, hm⟩ := cell_of_shapedOpen_int (P := Tryz.prog) (g := 2) (t := 3) (zero := #[.int .i64 0]) hsh (of_decide_eq_true (by kernel_rfl)) (by kernel_rfl) rfl (by kernel_rfl) (by kernel_rfl) Tryz.underlying3
  have q := fun i hi => Lib.TabIs.cell hqu (g := 3) (by kernel_rfl) i hi
  have q0 := q 0 (by decide)
  refine ⟨⟨hpow, ⟨_, _, by simpa using hc1⟩, ⟨_, _, by simpa using hc2⟩, ⟨m, hm⟩⟩, ⟨?_, q0, q 1 (by decide), q 2 (by decide), q 3 (by decide), q 4 (by decide), q 5 (by decide)⟩, fun j hj => ?_, ⟨?_, ?_⟩⟩
  · have := World.block_lt_of_cell? _ _ q0
    exact this
  · have h1 := Lib.TabIs.cell htz (g := 7) (by kernel_rfl) j (by simpa using hj)
    rw [h1]
    simp [List.getD, hj]
  · exact World.var?_cell (g := 1) (by kernel_rfl) hdw 0
  · exact World.var?_cell (g := 0) (by kernel_rfl) hvw 1
end Go.Proofs.YtmdbpkomanhpoaaGreatDoor.officeClosed
