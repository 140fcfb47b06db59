/- What the listed variables hold. -/
import Derived.LaidMore
import Derived.LaidSub
import Derived.Lib.LaidTab
import Derived.Stop.LaidErr
import Derived.ProofKit
import Derived.OpenShut
import Derived.Stop.Joined
import Derived.Deep.DeepHandedRow
import Derived.Shelf.Vars
import Derived.Test.YtlbpogklkkninaaGreatDoorZoOvO
namespace Go.Proofs.YtlbpogklkkninaaGreatDoor.officeSetups
open Go.ChangeShapes Go.WideShapes Go.ChangeAt Go.RowKit

/-- A table of texts as a row lists it. -/
def strData {H : Type} (zs : List (List UInt8)) : DataW H := .agg (zs.map fun z => .lit (.string z))
theorem cells_of_strs {H : Type} {enc : TypeId × Value → H} {P : Program} {w : World} {base : Nat} {sp : Nat → Bool} {held : Bool} {fuel : Nat} {t e : TypeId} {n : Nat} {cs : List Value} {zs : List (List UInt8)} {p : List MemPlace}
    (ht : P.underlying t = some (.array n e)) (he : P.underlying e = some .string) (hce : P.cellsOf e = 1) (hct : P.cellsOf t = n)
    (h : DataW.trod enc P w base sp held fuel t cs = some (strData zs, p)) : cs = zs.map fun z => Value.string ⟨z.toArray⟩ := by
  cases fuel with
  | zero => simp [DataW.trod] at h
  | succ fuel =>
    simp only [DataW.trod, ht, hce, hct, Nat.mul_one] at h
    split at h
    · rename_i hl
      obtain ⟨xs, hm, hx⟩ := Option.map_eq_some_iff.1 h
      have hxs : xs.map (·.1) = zs.map fun z => (DataW.lit (.string z) : DataW H) := by
        have := congrArg Prod.fst hx
        simpa [strData] using this
      have hxl : xs.length = n := by simpa using Lib.mapM_length hm
      have hzl : zs.length = n := by
        have := congrArg List.length hxs
        simp at this
        omega
      apply List.ext_getElem?
      intro i
      by_cases hi : i < n
      · obtain ⟨b, hb, hf⟩ := Lib.mapM_at hm i i (by simp [hi])
        obtain ⟨z, hc, rfl, _⟩ := DataW.trod_string he hf
        have h1 : cs[i]? = some (.string z) := by
          have := congrArg (·[0]?) hc
          simpa [List.getElem?_take, List.getElem?_drop] using this
        have h2 : (xs.map (·.1))[i]? = some (DataW.lit (.string z.data.toList) : DataW H) := by simp [hb]
        rw [hxs] at h2
        simp only [List.getElem?_map, Option.map_eq_some_iff, DataW.lit.injEq, Lit.string.injEq] at h2
        obtain ⟨z', hz', e'⟩ := h2
        subst e'
        simp [h1, hz']
      · rw [List.getElem?_eq_none (by omega), List.getElem?_eq_none (by simp; omega)]
    · cases h
theorem strIs_of_head {P : Program} {W : World} {name : String} {zs : List (List UInt8)} {rest : List (String × DataW Unit)} {g : Nat} {t e : TypeId} {n : Nat}
    (hg : P.globalNamed name = some g) (hty : (P.globals[g]?).map (·.type) = some t) (ht : P.underlying t = some (.array n e)) (he : P.underlying e = some .string) (hce : P.cellsOf e = 1) (hct : P.cellsOf t = n)
    (h : laidMet P ((name, strData zs) :: rest) W) : W.var? P name = some (zs.map fun z => Value.string ⟨z.toArray⟩).toArray := by
  obtain ⟨ps, ⟨g', t', cs, fuel, p, q, hg', ht', hvar, hd, _, _⟩, _⟩ := h
  obtain rfl := Option.some.inj (hg.symm.trans hg')
  obtain rfl := Option.some.inj (hty.symm.trans ht')
  rw [hvar, ← cells_of_strs ht he hce hct hd]
theorem ownKnobNone : ownKnob Tryz.prog.godebug = none := by kernel_rfl
theorem starErr : "*" ++ "errors.errorString" = "*errors.errorString" := by decide
theorem rowErr (u : TypeId) (h : Tryz.prog.typeName? 3 u = some "*errors.errorString") : u = 294 :=
  typeName_ptr_named (nm := "errors.errorString") (by rw [starErr]; kernel_rfl) (by kernel_rfl) (by decide) u (by rw [starErr]; exact h)
theorem facts_of {W : World} (h : laidMetH Tryz.prog Rows.officeSetupsRow.laid W) (hsh : W.ShapedOpen Tryz.prog) : LibW W ∧ Quant W ∧ Tz W ∧ WordsW W := by
  have h0 : laidMet Tryz.prog Rows.officeSetupsRow.laid W := by
    rw [MakeChecks.laidMetH_plain _ _ _ (by kernel_rfl)] at h
    exact h
  have hp := h0.filter (fun x => x.1 == "internal/strconv.uint64pow10")
  have hr := h0.filter (fun x => x.1 == "strconv.ErrRange")
  have hs := h0.filter (fun x => x.1 == "strconv.ErrSyntax")
  have hq := h0.filter (fun x => x.1 == "couplant/code.quantities")
  have hz := h0.filter (fun x => x.1 == "math/bits.deBruijn64tab")
  have hd := h0.filter (fun x => x.1 == "couplant/office.decisionWords")
  have hv := h0.filter (fun x => x.1 == "couplant/office.verdictWords")
  rw [show (Rows.officeSetupsRow.laid.filter fun x => x.1 == "internal/strconv.uint64pow10") = [("internal/strconv.uint64pow10", Lib.tabData .u64 Lib.pow10Tab)] from by kernel_rfl] at hp
  rw [show (Rows.officeSetupsRow.laid.filter fun x => x.1 == "strconv.ErrRange") = [("strconv.ErrRange", Rows.laid_strconv_ErrRange)] from by kernel_rfl] at hr
  rw [show (Rows.officeSetupsRow.laid.filter fun x => x.1 == "strconv.ErrSyntax") = [("strconv.ErrSyntax", Rows.laid_strconv_ErrSyntax)] from by kernel_rfl] at hs
  rw [show (Rows.officeSetupsRow.laid.filter fun x => x.1 == "couplant/code.quantities") = [("couplant/code.quantities", Lib.tabData .i64 [9, 20000, 20000, 20000, 100000, 200])] from by kernel_rfl] at hq
  rw [show (Rows.officeSetupsRow.laid.filter fun x => x.1 == "math/bits.deBruijn64tab") = [("math/bits.deBruijn64tab", Lib.tabData .u8 (Lib.deBruijn64tab.map Int.ofNat))] from by kernel_rfl] at hz
  rw [show (Rows.officeSetupsRow.laid.filter fun x => x.1 == "couplant/office.decisionWords") = [("couplant/office.decisionWords", strData [[97, 99, 99, 101, 112, 116], [114, 101, 106, 101, 99, 116], [114, 101, 112, 101, 97, 116]])] from by kernel_rfl] at hd
  rw [show (Rows.officeSetupsRow.laid.filter fun x => x.1 == "couplant/office.verdictWords") = [("couplant/office.verdictWords", strData [[110, 111], [109, 97, 121, 98, 101], [121, 101, 115]])] from by kernel_rfl] at hv
  have hpow : Lib.TabIs Tryz.prog W "internal/strconv.uint64pow10" .u64 Lib.pow10Tab :=
    Lib.tabIs_of_head (g := 4) (t := 237) (e := 203) (n := 20) (by kernel_rfl) (by kernel_rfl) Tryz.underlying237 Tryz.underlying203 (by kernel_rfl) (by kernel_rfl) hp
  have hqu : Lib.TabIs Tryz.prog W "couplant/code.quantities" .i64 [9, 20000, 20000, 20000, 100000, 200] :=
    Lib.tabIs_of_head (g := 2) (t := 97) (e := 3) (n := 6) (by kernel_rfl) (by kernel_rfl) Tryz.underlying97 Tryz.underlying3 (by kernel_rfl) (by kernel_rfl) hq
  have htz : Lib.TabIs Tryz.prog W "math/bits.deBruijn64tab" .u8 (Lib.deBruijn64tab.map Int.ofNat) :=
    Lib.tabIs_of_head (g := 7) (t := 277) (e := 5) (n := 64) (by kernel_rfl) (by kernel_rfl) Tryz.underlying277 Tryz.underlying5 (by kernel_rfl) (by kernel_rfl) hz
  have hdw := strIs_of_head (P := Tryz.prog) (g := 1) (t := 103) (e := 9) (n := 3) (by kernel_rfl) (by kernel_rfl) Tryz.underlying103 Tryz.underlying9 (by kernel_rfl) (by kernel_rfl) hd
  have hvw := strIs_of_head (P := Tryz.prog) (g := 0) (t := 103) (e := 9) (n := 3) (by kernel_rfl) (by kernel_rfl) Tryz.underlying103 Tryz.underlying9 (by kernel_rfl) (by kernel_rfl) hv
  obtain ⟨a1, s1, hv1, _, _, _⟩ := laid_sentinel hs (g := 9) (ti := 85) (tp := 294) (te := 296) (ts := 9) (by kernel_rfl) (by kernel_rfl) Tryz.underlying85 rowErr Tryz.underlying294 Tryz.underlying296 rfl rfl Tryz.underlying9 (by kernel_rfl) (by kernel_rfl)
  obtain ⟨a2, s2, hv2, _, _, _⟩ := laid_sentinel hr (g := 10) (ti := 85) (tp := 294) (te := 296) (ts := 9) (by kernel_rfl) (by kernel_rfl) Tryz.underlying85 rowErr Tryz.underlying294 Tryz.underlying296 rfl rfl Tryz.underlying9 (by kernel_rfl) (by kernel_rfl)
  have hc1 := World.var?_cell (g := 9) (by kernel_rfl) hv1 0
  have hc2 := World.var?_cell (g := 10) (by kernel_rfl) hv2 0
  obtain ⟨m, hm⟩ := cell_of_shapedOpen_int (P := Tryz.prog) (g := 3) (t := 3) (zero := #[.int .i64 0]) hsh (of_decide_eq_true (by kernel_rfl)) (by kernel_rfl) rfl (by kernel_rfl) (by kernel_rfl) Tryz.underlying3
  have q := fun i hi => Lib.TabIs.cell hqu (g := 2) (by kernel_rfl) i hi
  have q0 := q 0 (by decide)
  refine ⟨⟨hpow, ⟨_, _, by simpa using hc1⟩, ⟨_, _, by simpa using hc2⟩, ⟨m, hm⟩⟩, ⟨?_, q0, q 1 (by decide), q 2 (by decide), q 3 (by decide), q 4 (by decide), q 5 (by decide)⟩, fun j hj => ?_, ⟨?_, ?_⟩⟩
  · have := World.block_lt_of_cell? _ _ q0
    exact this
  · have h1 := Lib.TabIs.cell htz (g := 7) (by kernel_rfl) j (by simpa using hj)
    rw [h1]
    simp [List.getD, hj]
  · exact World.var?_cell (g := 1) (by kernel_rfl) hdw 0
  · exact World.var?_cell (g := 0) (by kernel_rfl) hvw 1
end Go.Proofs.YtlbpogklkkninaaGreatDoor.officeSetups
