/- DERIVED: THE SHELF's CONTRACTS AT THIS DUMP, IN PLAIN WORDS (tools/lay-plain.mjs out of 'YtlbpogklkkninaaGreatDoorShRaw.lean', which tools/lay-shelf.mjs wrote): THE SAME DECLARATIONS UNDER THE SAME NAMES: 'import', 'namespace', 'open', 'def', 'theorem' AND NOTHING ELSE: no command of the shelf's: FOR A HAND-IN. Each laying: the table of numbers ('.._ren') and one theorem, a field a fact of the dump's own or the kernel's comparison; each contract: ONE APPLICATION. The error of entries that are written (office.entriesErr). Functions that range over functions: the marks among their deferred calls. The seal of a log (office.Seal). -/
import Derived.Shelf.Strings.Search3
import Derived.Shelf.Strings.Split
import Derived.Shelf.Strings.IndexAny
import Derived.Shelf.Strings.AsciiSet
import Derived.Shelf.Strings.IndexAnyAll
import Derived.Test.YtlbpogklkkninaaGreatDoorProg
import Derived.Deep.DeepCutAuto
import Derived.RangeFuncLeaves
import Derived.RangeFuncBox
import Derived.RangeFuncNested
import Derived.OwnWalkIn
import Derived.Shelf.Abstract
import Derived.Test.YtlbpogklkkninaaGreatDoorZoOeS
import Derived.Test.YtlbpogklkkninaaGreatDoorZoCvM
namespace Go.Proofs
open Go.Shelf
def Tryz.lays150_ren : Go.Shelf.Ren := ⟨fun | 150 => 64 | 153 => 85 | 152 => 102 | 226 => 103 | 227 => 104 | 228 => 105 | 137 => 135 | 119 => 136 | 224 => 137 | 225 => 138 | 217 => 139 | 266 => 167 | n => n, fun | 9 => 9 | 4 => 4 | 3 => 3 | 5 => 5 | 21 => 21 | 117 => 170 | 116 => 169 | 0 => 0 | 46 => 210 | 124 => 211 | n => n, fun | n => n⟩
theorem Tryz.lays150 : Go.Proofs.Lays.n150 Tryz.prog Tryz.lays150_ren := {
  mixed := by kernel_rfl
  f119 := Tryz.func136.trans (congrArg some (by kernel_rfl))
  f137 := Tryz.func135.trans (congrArg some (by kernel_rfl))
  f150 := Tryz.func64.trans (congrArg some (by kernel_rfl))
  f152 := Tryz.func102.trans (congrArg some (by kernel_rfl))
  f153 := Tryz.func85.trans (congrArg some (by kernel_rfl))
  f217 := Tryz.func139.trans (congrArg some (by kernel_rfl))
  f224 := Tryz.func137.trans (congrArg some (by kernel_rfl))
  f225 := Tryz.func138.trans (congrArg some (by kernel_rfl))
  f226 := Tryz.func103.trans (congrArg some (by kernel_rfl))
  f227 := Tryz.func104.trans (congrArg some (by kernel_rfl))
  f228 := Tryz.func105.trans (congrArg some (by kernel_rfl))
  f266 := Tryz.func167.trans (congrArg some (by kernel_rfl))
  t0 := Tryz.underlying0
  a0 := Tryz.isAgg0
  z0 := Tryz.sizeOf0
  v0 := Tryz.zeroValue0
  t3 := Tryz.underlying3
  a3 := Tryz.isAgg3
  z3 := Tryz.sizeOf3
  v3 := Tryz.zeroValue3
  t4 := Tryz.underlying4
  a4 := Tryz.isAgg4
  z4 := Tryz.sizeOf4
  v4 := Tryz.zeroValue4
  t5 := Tryz.underlying5
  a5 := Tryz.isAgg5
  z5 := Tryz.sizeOf5
  v5 := Tryz.zeroValue5
  t9 := Tryz.underlying9
  a9 := Tryz.isAgg9
  z9 := Tryz.sizeOf9
  v9 := Tryz.zeroValue9
  t21 := Tryz.underlying21
  a21 := Tryz.isAgg21
  z21 := Tryz.sizeOf21
  v21 := Tryz.zeroValue21
  t46 := Tryz.underlying210
  a46 := Tryz.isAgg210
  z46 := Tryz.sizeOf210
  v46 := Tryz.zeroValue210
  t116 := Tryz.underlying169
  a116 := Tryz.isAgg169
  z116 := Tryz.sizeOf169
  t117 := Tryz.underlying170
  a117 := Tryz.isAgg170
  z117 := Tryz.sizeOf170
  v117 := Tryz.zeroValue170
  t124 := Tryz.underlying211
  a124 := Tryz.isAgg211
  z124 := Tryz.sizeOf211
  v124 := Tryz.zeroValue211 }
open Go.RowKit Go.Lib in
theorem Tryz.strings_ContainsAny_laid (s chars : ByteArray) (w : World) (hs : s.size < 4294967281) (hcs : chars.size < 4294967281) (has : ∀ (j : Nat) b, s.data.toList[j]? = some b → b.toNat < 128) (hac : ∀ (j : Nat) b, chars.data.toList[j]? = some b → b.toNat < 128) :
    Calls Tryz.prog 64 #[.string s, .string chars] w fun e w' => e = .returned (.bool (Lib.containsAny s.data.toList chars.data.toList)) ∧ Below w.heap.size w w' := Any.strings_ContainsAny_laid Tryz.lays150 (by kernel_rfl) s chars w hs hcs has hac
end Go.Proofs

namespace Go.Proofs.YtlbpogklkkninaaGreatDoor
open Go.RowKit Go.Lib

/-- Has a text a blank or a line's end? -/
def anyB (t : ByteArray) : Bool := t.data.toList.any fun b => decide (b = 32) || decide (b = 10)
/-- The error of an entry that is written. -/
def entE1 (x : ByteArray × ByteArray) : Int := if (x.1.toList == []) = true then 3 else if anyB x.1 = true then 3 else if decide (10 ∈ x.2.data.toList) = true then 3 else if 200 < x.2.size then 8 else 0
def entL : List (ByteArray × ByteArray) → Int
  | [] => 0
  | x :: l => if entE1 x = 0 then entL l else entE1 x
def entE (log : List (ByteArray × ByteArray)) : Int := if 60 < log.length then 8 else entL log
theorem entL_drop {log : List (ByteArray × ByteArray)} {k : Nat} (h : k < log.length) : entL (log.drop k) = if entE1 log[k] = 0 then entL (log.drop (k + 1)) else entE1 log[k] := by
  rw [List.drop_eq_getElem_cons h]
  rfl
/-- strings.ContainsAny of a text and " \n" tells anyB. -/
def CaOk (t : ByteArray) : Prop := ∀ W, Calls Tryz.prog 64 #[.string t, .string ⟨#[32, 10]⟩] W fun e w' => e = .returned (.bool (anyB t)) ∧ Below W.heap.size W w'
set_option maxRecDepth 100000 in
set_option maxHeartbeats 4000000 in
theorem entriesErr_any (log : List (ByteArray × ByteArray)) (A : Option Addr) (c C : Nat) (w : World) (hl : LogOk log A c C w) (hCA : ∀ x ∈ log, CaOk x.1) (hL : LibW w) :
    Calls Tryz.prog 38 #[.slice A log.length c] w fun e w' => e = .returned (.int .i64 (entE log)) ∧ Below w.heap.size w w' := by
  have HE : Hid (entE log = if 60 < log.length then 8 else entL log) := Lib.hid rfl
  have HLO := Lib.hid hl; have HCA := Lib.hid hCA; have HL := Lib.hid hL
  have hcap := hl.len
  clear hl hCA hL
  generalize entE log = RV at *
  by_cases h60 : 60 < log.length
  · replace HE := Lib.hid (HE.out.trans (if_pos h60))
    have h1 : (60 : Int) < (log.length : Int) := by omega
    clear h60
    go_enter Tryz.func38, Tryz.ntmps38
    go_wp2
    go_ret
    exact ⟨by rw [HE.out]; rfl, Below.refl _ _⟩
  replace HE := Lib.hid (HE.out.trans (if_neg h60))
  have h1 : ¬ ((60 : Int) < (log.length : Int)) := by omega
  have hlen : log.length ≤ 60 := by omega
  clear h60 hcap
  go_enter Tryz.func38, Tryz.ntmps38
  go_wp2
  clear h1
  go_loopw [10] (fun i wr => ∃ k : Nat, k ≤ log.length ∧ i = .int .i64 k ∧ Hid (RV = entL (log.drop k)) ∧ Below w.heap.size w wr) (fun i _ => log.length - (intOf i).toNat)
  case atStart => exact ⟨0, Nat.zero_le _, rfl, Lib.hid (by rw [HE.out]; rfl), Below.refl _ _⟩
  case round =>
    obtain ⟨k, hk, rfl, HR, hBr⟩ := hrel
    by_cases hlt : k < log.length
    · obtain ⟨g, o, hA, hg, c0, c1⟩ := (HLO.out.below hBr HLO.out.base).row.at2 enF_len hlt rfl
      subst hA
      replace HR := Lib.hid (HR.out.trans (entL_drop hlt))
      have HSZ := Lib.hid (HLO.out.sz _ (List.getElem_mem hlt))
      have HCX := Lib.hid (HCA.out _ (List.getElem_mem hlt))
      have hgr : g < wr.heap.size := Nat.lt_of_lt_of_le hg (Nat.le_trans HLO.out.base hBr.size)
      generalize log[k] = x at *
      obtain ⟨xb, xt⟩ := x
      dsimp only at c0 c1 HR HSZ HCX
      have HE1 : Hid (entE1 (xb, xt) = if (xb.toList == []) = true then 3 else if anyB xb = true then 3 else if decide (10 ∈ xt.data.toList) = true then 3 else if 200 < xt.size then 8 else 0) := Lib.hid rfl
      generalize entE1 (xb, xt) = E1 at *
      have hal : Gr wr (wr.alloc (.cells #[.string xb, .string xt] 49)) := (Below.refl _ _).alloc (Nat.le_refl _) _
      have hBa := hBr.trans (hal.mono hBr.size)
      have be := Blk.new wr 49 #[.string xb, .string xt]
      cases q1 : xb.toList == []
      rotate_left
      · replace HE1 := Lib.hid (HE1.out.trans (if_pos q1))
        replace HR := Lib.hid (HR.out.trans (if_neg (by rw [HE1.out]; decide)))
        go_wp2
        go_ret
        exact ⟨by rw [HR.out, HE1.out]; rfl, hBa⟩
      replace HE1 := Lib.hid (HE1.out.trans (if_neg (by simp only [q1]; decide)))
      obtain ⟨ab, hab⟩ : ∃ ab, anyB xb = ab := ⟨_, rfl⟩
      have HC2 := Lib.hid (HCX.out (wr.alloc (.cells #[.string xb, .string xt] 49)))
      rw [hab] at HE1 HC2
      clear hab HCX
      go_wp2_with fail
      refine HC2.out.mono ?_
      rintro e w3 ⟨rfl, hB3⟩
      have be3 := be.below hB3 be.lt
      have hB4 : Below w.heap.size w w3 := hBa.trans (hB3.mono hBa.size)
      have d0 := be3.cell 0
      have d1 := be3.cell 1
      have dl := be3.lt
      clear hB3 hBa be hal be3 c0 c1 HC2
      generalize wr.heap.size = g4 at *
      cases ab
      rotate_left
      · replace HE1 := Lib.hid (HE1.out.trans (if_pos rfl))
        replace HR := Lib.hid (HR.out.trans (if_neg (by rw [HE1.out]; decide)))
        go_wp2
        go_ret
        exact ⟨by rw [HR.out, HE1.out]; rfl, hB4⟩
      replace HE1 := Lib.hid (HE1.out.trans (if_neg (by simp)))
      have HC3 := Lib.hid (contains_one_any xt 10 HSZ.out w3 (HL.out.below hB4 (Nat.le_refl _)))
      obtain ⟨ct, hct⟩ : ∃ ct, decide (10 ∈ xt.data.toList) = ct := ⟨_, rfl⟩
      rw [hct] at HE1 HC3
      clear hct
      cases ct
      rotate_left
      · replace HE1 := Lib.hid (HE1.out.trans (if_pos rfl))
        replace HR := Lib.hid (HR.out.trans (if_neg (by rw [HE1.out]; decide)))
        go_wp2_with (go_at_call 65; refine HC3.out.mono ?_; rintro e w1 ⟨rfl, rfl⟩)
        go_ret
        exact ⟨by rw [HR.out, HE1.out]; rfl, hB4⟩
      replace HE1 := Lib.hid (HE1.out.trans (if_neg (by simp)))
      by_cases h2 : 200 < xt.size
      · replace HE1 := Lib.hid (HE1.out.trans (if_pos h2))
        replace HR := Lib.hid (HR.out.trans (if_neg (by rw [HE1.out]; decide)))
        have h3 : (200 : Int) < (xt.size : Int) := by omega
        clear h2
        go_wp2_with (go_at_call 65; refine HC3.out.mono ?_; rintro e w1 ⟨rfl, rfl⟩)
        go_ret
        exact ⟨by rw [HR.out, HE1.out]; rfl, hB4⟩
      · replace HE1 := Lib.hid (HE1.out.trans (if_neg h2))
        replace HR := Lib.hid (HR.out.trans (if_pos HE1.out))
        have h3 : ¬ ((200 : Int) < (xt.size : Int)) := by omega
        clear h2
        go_wp2_with (go_at_call 65; refine HC3.out.mono ?_; rintro e w1 ⟨rfl, rfl⟩)
        refine ⟨⟨k + 1, by omega, by go_num, HR, hB4⟩, by simp [intOf]; omega⟩
    · obtain rfl : k = log.length := by omega
      have HX : Hid (RV = 0) := Lib.hid (by rw [HR.out, List.drop_length]; rfl)
      go_wp2
      go_ret
      exact ⟨by rw [HX.out]; rfl, hBr⟩
end Go.Proofs.YtlbpogklkkninaaGreatDoor

namespace Go.Proofs.YtlbpogklkkninaaGreatDoor
open Go.RowKit Go.Shelf

/-- The marks of blocks. -/
def marksOf (Ds : List Nat) : List Deferred := Ds.map fun D => { target := .collected D, args := #[] }
/-- Blocks for deferred calls that hold none, from n₀ on. -/
structure Marks (n₀ : Nat) (Ds : List Nat) (w : World) : Prop where
  nodup : Ds.Nodup
  from_ : ∀ D ∈ Ds, n₀ ≤ D
  hold : ∀ D ∈ Ds, w.heap[D]? = some (.deferred (some []))
theorem Marks.nil (n₀ : Nat) (w : World) : Marks n₀ [] w := ⟨List.nodup_nil, (fun _ h => by cases h), (fun _ h => by cases h)⟩
theorem Marks.lt {n₀ : Nat} {Ds : List Nat} {w : World} (h : Marks n₀ Ds w) {D : Nat} (hD : D ∈ Ds) : D < w.heap.size := (Array.getElem?_eq_some_iff.1 (h.hold D hD)).1
theorem Marks.keep {n₀ : Nat} {Ds : List Nat} {w w' : World} (h : Marks n₀ Ds w) (hk : ∀ D, D ∈ Ds → w'.heap[D]? = w.heap[D]?) : Marks n₀ Ds w' :=
  ⟨h.nodup, h.from_, fun D hD => (hk D hD).trans (h.hold D hD)⟩
theorem Marks.gr {n₀ : Nat} {Ds : List Nat} {w w' : World} (h : Marks n₀ Ds w) (hb : Gr w w') : Marks n₀ Ds w' := h.keep fun D hD => hb.block D (h.lt hD)
theorem Marks.grown {n₀ : Nat} {Ds : List Nat} {w w' : World} {row : Option Nat} (h : Marks n₀ Ds w) (hb : w.grownBy w' row) (hr : ∀ r o, row = some r → w.heap[r]? = some o → ∃ o', w.heap[r]? = some o' ∧ o' ≠ .deferred (some [])) : Marks n₀ Ds w' :=
  h.keep fun D hD => hb.block D (h.lt hD) (fun e => by
    obtain ⟨o', h1, h2⟩ := hr D _ e.symm (h.hold D hD)
    rw [h.hold D hD] at h1
    exact h2 (Option.some.inj h1).symm)
theorem Marks.alloc {n₀ : Nat} {Ds : List Nat} {w : World} (h : Marks n₀ Ds w) (o : Obj) : Marks n₀ Ds (w.alloc o) := h.keep fun D hD => Below.heap_alloc w o D (h.lt hD)
theorem Marks.setCell {n₀ : Nat} {Ds : List Nat} {w : World} (h : Marks n₀ Ds w) {g o : Nat} {cs : Array Value} {t : TypeId} (hb : Blk w g t cs) (u : Value) : Marks n₀ Ds (w.setCell ⟨g, o, none⟩ u) :=
  h.keep fun D hD => Below.heap_setCell w _ u D (fun e => by
    have h1 := h.hold D hD
    rw [e] at h1
    have h2 : w.heap[g]? = some (.cells cs t (0, 0)) := hb
    rw [h2] at h1; cases h1)
theorem Marks.cons {n₀ : Nat} {Ds : List Nat} {w : World} (h : Marks n₀ Ds w) {D B : Nat} (hlt : ∀ D' ∈ Ds, D' < B) (hB : B ≤ D) (hn : n₀ ≤ D) (hD : w.heap[D]? = some (.deferred (some []))) : Marks n₀ (D :: Ds) w :=
  ⟨List.nodup_cons.2 ⟨fun hm => by have := hlt D hm; omega, h.nodup⟩, fun X hX => by
    rcases List.mem_cons.1 hX with rfl | hX
    · exact hn
    · exact h.from_ X hX, fun X hX => by
    rcases List.mem_cons.1 hX with rfl | hX
    · exact hD
    · exact h.hold X hX⟩

/-- Nothing has turned but that blocks for deferred calls, from n₀ on, are shut. -/
structure Shut (n₀ : Nat) (w w' : World) : Prop where
  below : Below n₀ w w'
  same : ∀ (i : Nat) (o : Obj), w.heap[i]? = some o → o ≠ Obj.deferred (some []) → w'.heap[i]? = some o
theorem Shut.refl (n₀ : Nat) (w : World) : Shut n₀ w w := ⟨Below.refl _ _, fun _ _ h _ => h⟩
theorem Shut.put {n₀ D : Nat} {w w' : World} (h : Shut n₀ (w.putObj D (.deferred none)) w') (hn : n₀ ≤ D) (hD : w.heap[D]? = some (.deferred (some []))) : Shut n₀ w w' := by
  refine ⟨⟨h.below.os, h.below.tape, h.below.output, by have := h.below.size; simpa using this, fun k hk => (h.below.block k hk).trans (World.putObj_heap_other (by omega))⟩, fun i o hi ho => h.same i o ?_ ho⟩
  rw [World.putObj_heap_other (fun e => by rw [e, hD] at hi; exact ho (Option.some.inj hi).symm)]
  exact hi
theorem Shut.blk {n₀ g : Nat} {w w' : World} {t : TypeId} {cs : Array Value} (h : Shut n₀ w w') (hb : Blk w g t cs) : Blk w' g t cs := h.same g _ hb (fun e => by cases e)
theorem Shut.own {n₀ base e size n : Nat} {w w' : World} {v : Value} {xs : List Value} (h : Shut n₀ w w') (ho : w.ownsRow base e size v n xs) : w'.ownsRow base e size v n xs := by
  refine ⟨ho.1, ?_⟩
  rcases ho.2 with h0 | ⟨g, cap, cur, hv, hb, hh, r⟩
  · exact .inl h0
  · exact .inr ⟨g, cap, cur, hv, hb, h.same g _ hh (fun e => by cases e), r⟩

theorem leaves_marks {P : Program} {F : Fence} {n : Nat} {fn : Func} {tmps : Array Value} {R : Ending → World → Prop} {n₀ : Nat} : ∀ (Ds : List Nat) (w : World), Marks n₀ Ds w →
    (∀ w', Shut n₀ w w' → ∃ v, (results fn tmps).run P w' = .ok v w' ∧ R (.returned v) w') → LeavesInM F n P fn tmps R (marksOf Ds) .returning w
  | [], w, _, h => h w (Shut.refl _ _)
  | D :: Ds, w, hM, h => by
    have hD := hM.hold D (by simp)
    have hn := hM.from_ D (by simp)
    refine ⟨by simp, .inl ⟨D, _, rfl, run_takeDeferred hD, ?_⟩⟩
    refine leaves_marks Ds _ ⟨(List.nodup_cons.1 hM.nodup).2, fun X hX => hM.from_ X (by simp [hX]), fun X hX => ?_⟩ (fun w' hs => h w' (hs.put hn hD))
    rw [World.putObj_heap_other (fun e => (List.nodup_cons.1 hM.nodup).1 (by rw [← e]; exact hX))]
    exact hM.hold X (by simp [hX])
theorem ret_marks {P : Program} {F : Fence} {n : Nat} {fn : Func} {tmps : Array Value} {R : Ending → World → Prop} {n₀ : Nat} {Ds : List Nat} {w : World} (hM : Marks n₀ Ds w)
    (h : ∀ w', Shut n₀ w w' → ∃ v, (results fn tmps).run P w' = .ok v w' ∧ R (.returned v) w') : bodyPostM F n P fn R .ret { tmps := tmps, defers := marksOf Ds } w := leaves_marks Ds w hM h
end Go.Proofs.YtlbpogklkkninaaGreatDoor

namespace Go.Proofs.YtlbpogklkkninaaGreatDoor
open Go.RowKit Go.Lib

attribute [local go_sem] Oper.semAt_some

/-- The seal behind the pieces so far. -/
def lastSeal (log : List (ByteArray × ByteArray)) (pre : List (Fin log.length)) : Int := (pre.getLast?.map fun x => sealL log (x.1 + 1)).getD 1
theorem lastSeal_snoc (log : List (ByteArray × ByteArray)) (pre : List (Fin log.length)) (x : Fin log.length) : lastSeal log (pre ++ [x]) = sealL log (x.1 + 1) := by simp [lastSeal]
theorem lastSeal_all (log : List (ByteArray × ByteArray)) : lastSeal log (List.finRange log.length) = sealL log log.length := by
  unfold lastSeal
  rw [List.getLast?_eq_getElem?]
  rcases Nat.eq_zero_or_pos log.length with h0 | h0
  · rw [List.getElem?_eq_none (by simp; omega), h0]; rfl
  · rw [List.length_finRange, List.getElem?_eq_getElem (by simp; omega)]
    simp only [List.getElem_finRange, Option.map_some, Option.getD_some]
    congr 1
    simp
    omega
/-- What the rounds hold: the seal in its box. -/
def PsI (w5 : World) (b : Nat) (v : Int) (W : World) : Prop := Blk W b 112 #[.int .i64 v] ∧ w5.grownBy W (some b)
theorem PsI.kept {w5 X Y : World} {b : Nat} {v : Int} {row : Option Nat} (h : PsI w5 b v X) (hf : b < w5.heap.size) (hg : X.grownBy Y row) (hr : ∀ r, row = some r → w5.heap.size ≤ r ∧ ∃ o : Obj, X.heap[r]? = some o ∧ o.isCells = false) : PsI w5 b v Y :=
  ⟨(hg.block b h.1.lt (fun e => by have := (hr b e.symm).1; omega)).trans h.1, h.2.andThen hg (fun j e => Or.inl (hr j e).1)⟩
set_option maxRecDepth 100000 in
set_option maxHeartbeats 4000000 in
theorem seal_ok (log : List (ByteArray × ByteArray)) (A : Option Addr) (c C : Nat) (w : World) (hl : LogOk log A c C w) (hCA : ∀ x ∈ log, CaOk x.1) (hL : LibW w) (hsz : ∀ x ∈ log, x.1.size ≤ 1000000) (h0 : entE log = 0) :
    Calls Tryz.prog 12 #[.slice A log.length c] w fun e w' => e = .returned (.tuple #[.int .i64 (sealL log log.length), .int .i64 0]) ∧ Below w.heap.size w w' := by
  have HEN := Lib.hid (entriesErr_any log A c C w hl hCA hL)
  rw [h0] at HEN
  have hlen : log.length ≤ 60 := by
    unfold entE at h0
    split at h0
    · cases h0
    · omega
  have HLO := Lib.hid hl; have HSZ := Lib.hid hsz
  have HS0 : Hid (sealL log 0 = 1) := Lib.hid rfl
  clear hl hCA hL h0 hsz
  refine callsIn_wide.1 (callsIn_of_wp_marks (F := Fence.wide) (n := 5) Tryz.func12 rfl trivial (wpIn_wide.2 ?_) rfl)
  simp only [Tryz.ntmps12, List.size_toArray, List.length_cons, List.length_nil, Nat.reduceAdd, Nat.reduceSub, Array.replicate_succ, Array.replicate_zero, List.push_toArray, List.append_toArray, List.nil_append, List.cons_append]
  go_wp2_with fail
  refine HEN.out.mono ?_
  rintro e w1 ⟨rfl, hB1⟩
  have hB2 : Below w.heap.size w (w1.alloc (.cells #[.int .i64 1] 112)) := hB1.alloc hB1.size _
  have bo := Blk.new w1 112 #[.int .i64 1]
  have hgo : w.heap.size ≤ w1.heap.size := hB1.size
  generalize hW2 : w1.alloc (.cells #[.int .i64 1] 112) = W2 at *
  go_wp2_with fail
  clear hW2
  generalize w1.heap.size = b5 at *
  refine (sealed_any A log.length c W2).mono ?_
  rintro e w5 ⟨rfl, h5⟩
  have hG5 : Gr W2 w5 := by rw [h5]; exact (Below.refl _ _).alloc (Nat.le_refl _) _
  have hbs : Boxed w5 W2.heap.size 45 (.slice A log.length c) := by rw [h5]; exact Blk.new _ _ _
  have bo5 := bo.below hG5 bo.lt
  have hBW : Below w.heap.size w w5 := hB2.trans (hG5.mono hB2.size)
  have hb5 : b5 < W2.heap.size := bo.lt
  clear h5
  generalize W2.heap.size = Bs at *
  have hBs5 : Bs < w5.heap.size := Blk.lt hbs
  obtain ⟨gL, o, hA, hgL, hgb, hO⟩ : ∃ gL o, (0 < log.length → A = some ⟨gL, o, none⟩) ∧ gL < w5.heap.size ∧ gL ≠ b5 ∧ LogAt log gL o w5.heap[gL]? := by
    rcases Nat.eq_zero_or_pos log.length with h0 | h0
    · exact ⟨Bs, 0, fun h => absurd h (by omega), hBs5, by omega, fun W _ k hk => absurd hk (by omega)⟩
    · have hR := (HLO.out.row.below hBW HLO.out.base)
      obtain ⟨g, o, e, hg, _⟩ := hR.2 h0
      subst e
      exact ⟨g, o, fun _ => rfl, Nat.lt_of_lt_of_le hg (Nat.le_trans HLO.out.base hBW.size), by have := HLO.out.base; omega, logAt_row hR⟩
  have hsz2 : ∀ x ∈ log, x.1.size ≤ 1000000 ∧ x.2.size ≤ 1000000 := fun x hx => ⟨HSZ.out x hx, HLO.out.sz x hx⟩
  go_wp2_with fail
  refine wpIn_wide.1 (wpIn_rangeFunc_ownH (n := 5) rfl (by omega) (gf := 66) (lb := #[.pointer (some ⟨Bs, 0, none⟩)]) rfl trivial (enters_of Tryz.func66 (by kernel_rfl) rfl)
    (sealed_stops 4 (by omega) Bs gL o c A log hA _ hO (by omega) hsz2 w5 hbs rfl hgL) KN2.trans (fun W l o o' hl _ _ _ => ⟨World.putObj_heap_other (by omega), World.putObj_heap_other (by omega)⟩) (Below.refl _ _) (fun _ => rfl)
    (fun pre W => PsI w5 b5 (lastSeal log pre) W)
    (fun _ _ _ => False)
    ?hI ?hIx ?h0
    (fun x a' W => a' = ⟨#[.slice A log.length c, undef, .int .i64 0, .int .i64 0, .int .i64 0, .pointer (some ⟨b5, 0, none⟩), .int .i64 (sealL log (x.1 + 1)), .slice A log.length c, .int .i64 0, .int .i64 0, .bool false, undef, .slice A log.length c, .func (.func 66) #[] #[.pointer (some ⟨Bs, 0, none⟩)], .int .i64 (sealL log (x.1 + 1)), .agg #[.string log[x.1].1, .string log[x.1].2], undef, undef], []⟩) ?hAx ?assign ?body ?done ?stop)
  case hI => exact fun pre X Y row h hg hr => h.kept (by omega) hg hr
  case hIx => exact fun _ _ _ _ _ h _ _ => h
  case h0 => exact ⟨bo5, ⟨rfl, rfl, rfl, Nat.le_refl _, fun _ _ _ => rfl⟩⟩
  case hAx => exact fun x a' _ X Y row h _ _ => h
  case assign =>
    intro l pre x W K hIp hK
    dsimp only [List.zip_cons_cons]
    gi_wp2
    exact hK _ _ (KeepsFrom.refl _ _) (KN2.refl _ _ _) hIp rfl
  case body =>
    rintro l pre x a' W hl hrl ⟨h1, h2⟩ rfl hN
    have HX := Lib.hid (lastSeal_snoc log pre x)
    have c0 := h1.cell 0
    have cf := h1.frozen 0
    have lf := h1.lt
    have HP := Lib.hid (And.intro h1 h2)
    clear h1 h2
    generalize sealL log (x.1 + 1) = v at *
    gi_wp2
    refine ⟨(KeepsOthers.setCell _ _ _).from _, ⟨Below.heap_setCell W ⟨b5, 0, none⟩ _ Bs (by simp only; omega), Below.heap_setCell W ⟨b5, 0, none⟩ _ gL (by simp only; omega)⟩, ?_⟩
    dsimp only
    rw [HX.out]
    exact ⟨HP.out.1.set_ 0 (.int .i64 v), HP.out.2.trans ⟨rfl, rfl, rfl, by simp, fun k hk hne => Below.heap_setCell W ⟨b5, 0, none⟩ _ k (fun e => hne (by rw [e]))⟩⟩
  case done =>
    rintro D xs W hD rfl ⟨h1, h2⟩ hdf
    rw [lastSeal_all] at h1
    have HMC : Hid (Marks w.heap.size [D] W) := Lib.hid ((Marks.nil _ _).cons (fun _ h => by cases h) (Nat.zero_le _) (by have := hBW.size; omega) hdf)
    have hBf : Below w.heap.size w W := hBW.grown h2 (Below.size hBW) (fun r e => by have := Option.some.inj e; omega)
    have c0 := h1.cell 0
    have lf := h1.lt
    have HBf := Lib.hid hBf
    clear hdf h2 hBf h1
    dsimp only
    go_wp2_with fail
    refine ret_marks (n₀ := w.heap.size) (Ds := [D]) HMC.out fun w' hs => ⟨.tuple #[.int .i64 (sealL log log.length), .int .i64 0], ?_, rfl, HBf.out.trans hs.below⟩
    simp [results, Tryz.results12, go_sem]
  case stop =>
    rintro D c pre W hD hpre h hdf
    exact h.elim
end Go.Proofs.YtlbpogklkkninaaGreatDoor
