/- A range over an iterator that writes a box of its own between the rounds (strings.Lines is one): what the caller owes is an invariant that minds neither that box nor the loop's own records, and one walk of its body. Contract: strings.Lines and its iterator. -/
import Derived.RangeFuncBox
import Derived.RangeFuncLeaves
import Derived.RangeFuncNested
import Derived.Test.YtaekcfancfoccaaGreatDoorProg
import Derived.Shelf.Abstract
import Derived.WalkKit
import Derived.OwnWalkIn
import Derived.TacticsInMore
import Derived.LoopNIn
import Derived.LoopIn
import Derived.Maps.AppendAt
import Derived.Test.YtaekcfancfoccaaGreatDoorZmRgI
import Derived.Test.YtaekcfancfoccaaGreatDoorZmTxY
import Derived.Test.YtaekcfancfoccaaGreatDoorZmShTq
import Derived.Test.YtaekcfancfoccaaGreatDoorZmZkCvM
namespace Go.Proofs.YtaekcfancfoccaaGreatDoor
open Go.RowKit

variable {F : Fence} {n : Nat} {P : Program}

def SeqBox {α : Type} (F : Fence) (n : Nat) (P : Program) (g : Nat) (lb : Array Value) (encs : α → Array Value) (Bx : Nat) (t : TypeId) (v0 : Value) (xs : List α) : Prop :=
  ∀ (l : Nat) (J Jx : List α → World → Prop) (W : World), Boxed W Bx t v0 → (∀ s W1 W2, J s W1 → W1.grownBy W2 (some Bx) → J s W2) →
    (∀ pre x W1, pre ++ [x] <+: xs → J pre W1 → YieldAt F (n - 1) P l (encs x) W1 fun e W' =>
      (e = .returned (.bool true) ∧ J (pre ++ [x]) W' ∧ W'.heap[Bx]? = W1.heap[Bx]?) ∨ (e = .returned (.bool false) ∧ Jx (pre ++ [x]) W')) →
    J [] W → CallsIn F n P g (#[.func (.yield l) #[] #[]] ++ lb) W fun e W' => (∃ v, e = .returned v) ∧ (J xs W' ∨ ∃ pre, pre <+: xs ∧ Jx pre W')

def boxPost {α : Type} (B Bx : Nat) (I : List α → World → Prop) (Ix : Code → List α → World → Prop) (xs : List α) (W : World) : Exit → Act → World → Prop
  | .normal, _, W' => KeepsFrom B W W' ∧ W'.heap[Bx]? = W.heap[Bx]? ∧ I xs W'
  | .ret, _, W' => KeepsFrom B W W' ∧ Ix .ret xs W'
  | .exit id, _, W' => KeepsFrom B W W' ∧ Ix (.exit id) xs W'
  | _, _, _ => False

def Recs (D : Nat) (rc : Loop) (W : World) : Prop := W.heap[D + 1]? = some (.loop rc) ∧ W.heap[D]? = some (.deferred (some []))
theorem Recs.put {D : Nat} {rc rc' : Loop} {W : World} (h : Recs D rc W) : Recs D rc' (W.putObj (D + 1) (.loop rc')) :=
  ⟨World.putObj_heap_same (Array.getElem?_eq_some_iff.1 h.1).1, (World.putObj_heap_other (by omega)).trans h.2⟩
theorem Recs.kept {D : Nat} {rc : Loop} {W W' : World} (h : Recs D rc W) (hk : KeepsFrom D W W') : Recs D rc W' :=
  ⟨hk.same _ _ (by omega) h.1 rfl, hk.same _ _ (Nat.le_refl _) h.2 rfl⟩
theorem Recs.box {D : Nat} {rc : Loop} {W W' : World} (h : Recs D rc W) {Bx : Nat} (hb : Bx < D) (hg : W.grownBy W' (some Bx)) : Recs D rc W' :=
  ⟨(hg.block _ (Array.getElem?_eq_some_iff.1 h.1).1 (fun e => by have := Option.some.inj e; omega)).trans h.1, (hg.block _ (Array.getElem?_eq_some_iff.1 h.2).1 (fun e => by have := Option.some.inj e; omega)).trans h.2⟩

set_option maxHeartbeats 1000000 in
theorem wpIn_rangeFunc_box {α : Type} {g : Operand} {ps : Array Tmp} {assign body : Code} {Q : Exit → Act → World → Prop} {a : Act} {w : World} (hro : F.round = none) (h1 : 1 ≤ n) {gf : Nat} {lb : Array Value}
    (hg : a.eval g = .func (.func gf) #[] lb) (hFg : F.fn gf) (eg : ∀ args w, (callFunc gf args).run P w = .ok (.enter gf args) w) {encs : α → Array Value} {Bx : Nat} {t : TypeId} {v0 : Value} {xs : List α}
    (hseq : SeqBox F (n - 1) P gf lb encs Bx t v0 xs) (hBx : Boxed w Bx t v0) (hps : ∀ x, (encs x).size = ps.size) (I : List α → World → Prop) (Ix : Code → List α → World → Prop)
    (hI : OwnFrom w.heap.size I) (hIx : ∀ c, OwnFrom w.heap.size (Ix c)) (hIb : ∀ s W W', I s W → W.grownBy W' (some Bx) → I s W') (h0 : I [] w) (a₁ : α → Act)
    (hassign : ∀ (l : Nat) (x : α) (W : World) (K : Act → World → Prop), K (a₁ x) W → assign.wpIn (F.inRound l) (n - 1 - 1) P (Exit.then K (fun _ _ _ => False)) { tmps := (ps.zip (encs x)).foldl (fun t (p, v) => t.setIfInBounds p v) a.tmps, defers := [] } W)
    (hbody : ∀ (l : Nat) (pre : List α) (x : α) (W : World), w.heap.size ≤ l → pre ++ [x] <+: xs → I pre W → body.wpIn (F.inRound l) (n - 1 - 1) P (boxPost w.heap.size Bx I Ix (pre ++ [x]) W) (a₁ x) W)
    (hdone : ∀ (D : Nat) (W : World), w.heap.size ≤ D → I xs W → W.heap[D]? = some (.deferred (some [])) → Q .normal { a with defers := { target := .collected D, args := #[] } :: a.defers } W)
    (hstop : ∀ (D : Nat) (c : Code) (pre : List α) (W : World), w.heap.size ≤ D → pre <+: xs → Ix c pre W → W.heap[D]? = some (.deferred (some [])) → c.wpIn F n P Q { a with defers := { target := .collected D, args := #[] } :: a.defers } W) :
    (Code.rangeFunc g ps assign body).wpIn F n P Q a w := by
  have hlt : Bx < w.heap.size := (Array.getElem?_eq_some_iff.1 hBx).1
  refine wpIn_rangeFunc fun fn hfn => ?_
  rw [hro]
  let rc : LoopState → Option Code → Loop := fun st pe => { state := st, pending := pe, fn, tmps := a.tmps, params := ps, assign, body, defers := w.heap.size }
  have hrc : ∀ st pe, (rc st pe).params = ps := fun _ _ => rfl
  have e1 := run_enterLoop_outer (P := P) (w := w) fn a.tmps ps assign body
  have hR0 : Recs w.heap.size (rc .ready none) ((w.alloc (.deferred (some []))).alloc (.loop (rc .ready none))) := by
    refine ⟨?_, (Below.heap_alloc _ _ _ (by simp)).trans (World.alloc_heap_new w _)⟩
    have := World.alloc_heap_new (w.alloc (.deferred (some []))) (.loop (rc .ready none))
    rwa [World.size_alloc] at this
  have hI0 : I [] ((w.alloc (.deferred (some []))).alloc (.loop (rc .ready none))) := hI.alloc _ (hI.alloc _ h0)
  have hB0 : Boxed ((w.alloc (.deferred (some []))).alloc (.loop (rc .ready none))) Bx t v0 :=
    (Below.heap_alloc _ _ _ (by simp; omega)).trans ((Below.heap_alloc _ _ _ hlt).trans hBx)
  have e1' : (Instr.enterLoop fn a.tmps ps assign body none).run P w = .ok (w.heap.size + 1, [{ target := .collected w.heap.size, args := #[] }]) ((w.alloc (.deferred (some []))).alloc (.loop (rc .ready none))) := e1
  generalize (w.alloc (.deferred (some []))).alloc (.loop (rc .ready none)) = W1 at e1' hR0 hI0 hB0
  clear e1
  refine ⟨_, _, W1, { target := .fn (.func gf) lb, args := #[.func (.yield (w.heap.size + 1)) #[] #[]] }, W1, gf, #[.func (.yield (w.heap.size + 1)) #[] #[]] ++ lb, W1, e1', ?_, ?_, ?_, fun _ => h1, ?_⟩
  · simp only [resolve, hg]
    simp [go_sem]
  · intro f' hf'
    simp [Target.leads] at hf'
    subst hf'
    exact hFg
  · simp [invoke, go_sem, eg]
  · refine (hseq (w.heap.size + 1) (fun pre W => I pre W ∧ Recs w.heap.size (rc .ready none) W) (fun pre W => ∃ c, Ix c pre W ∧ Recs w.heap.size (rc .done (some c)) W) _ hB0
      (fun s W W' h hg => ⟨hIb s W W' h.1 hg, h.2.box hlt hg⟩) ?_ ⟨hI0, hR0⟩).mono ?_
    · rintro pre x W hpx ⟨hi, hr⟩
      refine ⟨fn, _, assign, body, run_yield (P := P) hr.1 (hps x), roundIn_of_wpIn hfn (hassign _ x W _ ⟨_, run_beginRound hr.1 rfl, ?_⟩)⟩
      have hr2 : Recs w.heap.size (rc .busy none) (W.putObj (w.heap.size + 1) (.loop (rc .busy none))) := hr.put
      have hb2 : (W.putObj (w.heap.size + 1) (.loop (rc .busy none))).heap[Bx]? = W.heap[Bx]? := World.putObj_heap_other (by omega)
      refine wpIn_mono (hbody _ pre x _ (by omega) hpx (hI.putObj _ hi (by omega) hr.1 rfl)) ?_
      rintro e a3 W3 hp
      have fin : ∀ (jump : Option Code), KeepsFrom w.heap.size (W.putObj (w.heap.size + 1) (.loop (rc .busy none))) W3 → (Instr.endRound (w.heap.size + 1) jump).run P W3 = .ok (.bool jump.isNone) (W3.putObj (w.heap.size + 1) (.loop (rc (if jump.isNone then .ready else .done) jump))) ∧ Recs w.heap.size (rc .busy none) W3 ∧ Recs w.heap.size (rc (if jump.isNone then .ready else .done) jump) (W3.putObj (w.heap.size + 1) (.loop (rc (if jump.isNone then .ready else .done) jump))) := fun jump hk =>
        ⟨run_endRound (P := P) jump (hr2.kept hk).1, hr2.kept hk, (hr2.kept hk).put⟩
      cases e with
      | normal =>
        obtain ⟨hk, hb, hi3⟩ := hp
        obtain ⟨f1, f2, f3⟩ := fin none hk
        exact ⟨_, _, f1, .inl ⟨rfl, ⟨hI.putObj _ hi3 (by omega) f2.1 rfl, f3⟩, (World.putObj_heap_other (by omega)).trans (hb.trans hb2)⟩⟩
      | ret =>
        obtain ⟨hk, hi3⟩ := hp
        obtain ⟨f1, f2, f3⟩ := fin (some .ret) hk
        exact ⟨_, _, f1, .inr ⟨rfl, .ret, (hIx _).putObj _ hi3 (by omega) f2.1 rfl, f3⟩⟩
      | exit id =>
        obtain ⟨hk, hi3⟩ := hp
        obtain ⟨f1, f2, f3⟩ := fin (some (.exit id)) hk
        exact ⟨_, _, f1, .inr ⟨rfl, .exit id, (hIx _).putObj _ hi3 (by omega) f2.1 rfl, f3⟩⟩
      | goto t => exact hp.elim
      | panic ch => exact hp.elim
      | outgrown => exact hp.elim
    · rintro e W2 ⟨⟨v, rfl⟩, (⟨hi, hr⟩ | ⟨pre, hpre, c, hi, hr⟩)⟩
      · exact ⟨none, _, run_endLoop (P := P) hr.1 (by simp [rc]), hdone _ _ (Nat.le_refl _) (hI.putObj _ hi (by omega) hr.1 rfl) ((World.putObj_heap_other (by omega)).trans hr.2)⟩
      · exact ⟨some c, _, run_endLoop (P := P) hr.1 (by simp [rc]), hstop _ c pre _ (Nat.le_refl _) hpre ((hIx c).putObj _ hi (by omega) hr.1 rfl) ((World.putObj_heap_other (by omega)).trans hr.2)⟩
end Go.Proofs.YtaekcfancfoccaaGreatDoor

namespace Go.Proofs.YtaekcfancfoccaaGreatDoor
open Go.RowKit Go.Shelf Go.Lib

attribute [local go_sem] Oper.semAt_some

theorem indexByte_miss (c : UInt8) : ∀ (l : List UInt8), c ∉ l → indexByte l c = -1
  | [], _ => rfl
  | b :: l, h => by
    have hb : ¬ b = c := fun e => h (by rw [e]; simp)
    have ih := indexByte_miss c l (fun hm => h (by simp [hm]))
    unfold indexByte
    simp [hb, ih]
theorem indexByte_hit (c : UInt8) : ∀ (a r : List UInt8), c ∉ a → indexByte (a ++ c :: r) c = a.length
  | [], r, _ => by unfold indexByte; simp
  | b :: a, r, h => by
    have hb : ¬ b = c := fun e => h (by rw [e]; simp)
    have ih := indexByte_hit c a r (fun hm => h (by simp [hm]))
    have h0 : (0 : Int) ≤ (a.length : Int) := by omega
    rw [List.cons_append]
    unfold indexByte
    simp [hb, ih]
    try omega
theorem line_cut (a r : List UInt8) (s : ByteArray) (hs : s = strB (a ++ 10 :: r)) : s.extract 0 (a.length + 1) = strB (a ++ [10]) ∧ s.extract (a.length + 1) s.size = strB r ∧ s.size = a.length + 1 + r.length := by
  subst hs
  have hz : (strB (a ++ 10 :: r)).size = a.length + 1 + r.length := by rw [strB_size]; simp; omega
  refine ⟨?_, ?_, hz⟩
  · rw [ext_piece, strB_data]
    congr 1
    rw [List.drop_zero, Nat.sub_zero, show a ++ 10 :: r = (a ++ [10]) ++ r by simp, List.take_append_of_le_length (by simp)]
    rw [List.take_of_length_le (by simp)]
  · rw [ext_piece, strB_data, hz]
    congr 1
    rw [show a ++ 10 :: r = (a ++ [10]) ++ r by simp, List.drop_append_of_le_length (by simp), List.drop_of_length_le (by simp), List.nil_append]
    rw [List.take_of_length_le (by omega)]

theorem lines_any (s : ByteArray) (w : World) : Calls Tryz.prog 38 #[.string s] w fun e w' => e = .returned (.func (.func 76) #[] #[.pointer (some ⟨w.heap.size, 0, none⟩)]) ∧ w' = w.alloc (.cells #[.string s] 9) := by
  go_enter Tryz.func38, Tryz.ntmps38
  go_wp2
  go_ret
  exact ⟨rfl, rfl⟩

set_option maxRecDepth 100000 in
set_option maxHeartbeats 4000000 in
theorem lines1_in (n : Nat) (hn : 1 ≤ n) (l Bx : Nat) (s : ByteArray) (hs : s.size ≤ 1000000) (J Jx : List ByteArray → World → Prop) (W : World) (hB : Boxed W Bx 9 (.string s)) (hJ : ∀ x W1 W2, J x W1 → W1.grownBy W2 (some Bx) → J x W2)
    (hY : ∀ pre x W1, pre ++ [x] <+: (linesY s.data.toList).map strB → J pre W1 → YieldAt Fence.wide (n - 1) Tryz.prog l #[.string x] W1 fun e W' =>
      (e = .returned (.bool true) ∧ J (pre ++ [x]) W' ∧ W'.heap[Bx]? = W1.heap[Bx]?) ∨ (e = .returned (.bool false) ∧ Jx (pre ++ [x]) W')) (h0 : J [] W) :
    CallsIn Fence.wide n Tryz.prog 76 #[.func (.yield l) #[] #[], .pointer (some ⟨Bx, 0, none⟩)] W fun e W' => (∃ v, e = .returned v) ∧ (J ((linesY s.data.toList).map strB) W' ∨ ∃ pre, pre <+: (linesY s.data.toList).map strB ∧ Jx pre W') := by
  refine callsIn_of_wp Tryz.func76 rfl trivial ?_ rfl
  simp only [Tryz.ntmps76, List.size_toArray, List.length_cons, List.length_nil, Nat.reduceAdd, Nat.reduceSub, Array.replicate_succ, Array.replicate_zero, List.push_toArray, List.append_toArray, List.nil_append, List.cons_append]
  gi_wp2
  have hHJ := Lib.hid hJ
  have hHY := Lib.hid hY
  clear hJ hY
  gi_loopw [] (fun wr => ∃ (pre : List ByteArray) (r : List UInt8), Hid (pre ++ (linesY r).map strB = (linesY s.data.toList).map strB) ∧ r.length ≤ s.size ∧ Boxed wr Bx 9 (.string (strB r)) ∧ J pre wr) (fun wr => match wr.cell? ⟨Bx, 0, none⟩ with | some (.string x) => x.size | _ => 0)
  case atStart => exact ⟨[], s.data.toList, Lib.hid rfl, Nat.le_of_eq (by rw [Array.length_toList]; rfl), hB, h0⟩
  case round =>
    obtain ⟨pre, r, hp, hr, hb, hj⟩ := hrel
    have c0 : wr.cell? ⟨Bx, 0, none⟩ = some (.string (strB r)) := Blk.cell hb 0
    have f0 : wr.frozen? ⟨Bx, 0, none⟩ = false := Blk.frozen hb 0
    have l0 : Bx < wr.heap.size := Blk.lt hb
    have hz : (strB r).size = r.length := strB_size r
    by_cases h0 : r = []
    · subst h0
      have hz0 : (strB []).size = 0 := rfl
      have HP : Hid (pre = (linesY s.data.toList).map strB) := Lib.hid (by rw [← hp.out, linesY_nil]; simp)
      clear hp
      have HJ2 : Hid (J ((linesY s.data.toList).map strB) wr) := Lib.hid (by rw [← HP.out]; exact hj)
      clear hj hb hz HP
      gi_wp2
      go_end0
      exact ⟨⟨_, rfl⟩, .inl HJ2.out⟩
    · have hpos : 0 < r.length := List.length_pos_iff.2 h0
      rcases cutL_split 10 r with hm | ⟨a, r', he, ha⟩
      · have HI : Hid (indexByte (strB r).data.toList 10 = -1) := Lib.hid (indexByte_miss 10 r hm)
        have HP : Hid (pre ++ [strB r] ++ (linesY []).map strB = (linesY s.data.toList).map strB) := Lib.hid (by rw [← hp.out, linesY_miss r hm h0, linesY_nil]; simp)
        have HPX : Hid (pre ++ [strB r] <+: (linesY s.data.toList).map strB) := Lib.hid ⟨_, HP.out⟩
        obtain ⟨fn, tmps, assign, body, hy, hR⟩ := hHY.out pre (strB r) _ HPX.out (hHJ.out _ _ _ hj (grownBy_setCell' wr Bx (.string ⟨#[]⟩)))
        have hb' : Boxed (wr.setCell ⟨Bx, 0, none⟩ (.string ⟨#[]⟩)) Bx 9 (.string (strB [])) := Blk.set_ hb 0 _
        have HB' := Lib.hid hb'
        clear hp hm h0 hb hj hb'
        generalize strB r = S at *
        gi_wp2_with (refine ⟨trivial, ?_⟩; gi_at_call 77; refine (callsIn_wide.2 (Tryz.strings_IndexByte _ _ _)).mono ?_; rintro e W2 ⟨rfl, rfl⟩; rw [show (Int.toNat 10).toUInt8 = (10 : UInt8) from rfl, HI.out])
        refine hR.mono ?_
        rintro e W3 (⟨rfl, hJ3, hk3⟩ | ⟨rfl, hJx3⟩)
        · have hb3 : Boxed W3 Bx 9 (.string (strB [])) := hk3.trans HB'.out
          have hc3 : W3.cell? ⟨Bx, 0, none⟩ = some (.string (strB [])) := Blk.cell hb3 0
          have HB3 := Lib.hid hb3
          clear hb3 hk3 hR hy
          gi_wp2
          go_roundw
          case rel => exact ⟨_, [], HP, by simp, HB3.out, hJ3⟩
          case measure => rw [hc3, c0]; show (strB []).size < S.size; rw [strB_size]; simp; omega
        · gi_wp2
          refine bodyPost_ret (results_none rfl _ _ _) rfl ?_
          exact ⟨⟨_, rfl⟩, .inr ⟨_, HPX.out, hJx3⟩⟩
      · have HI : Hid (indexByte (strB r).data.toList 10 = a.length) := Lib.hid (by rw [strB_data, he]; exact indexByte_hit 10 a r' ha)
        obtain ⟨q1, q2, q3⟩ := line_cut a r' (strB r) (by rw [he])
        have HP : Hid (pre ++ [strB (a ++ [10])] ++ (linesY r').map strB = (linesY s.data.toList).map strB) := Lib.hid (by rw [← hp.out, he, linesY_hit a r' ha]; simp)
        have HPX : Hid (pre ++ [strB (a ++ [10])] <+: (linesY s.data.toList).map strB) := Lib.hid ⟨_, HP.out⟩
        have hr' : r'.length ≤ s.size := by omega
        have Q1 := Lib.hid q1; have Q2 := Lib.hid q2
        have HB := Lib.hid hb; have HJ := Lib.hid hj
        clear hp h0 hb hj ha q1 q2
        obtain ⟨L1, hL1⟩ : ∃ L1, strB (a ++ [10]) = L1 := ⟨_, rfl⟩
        have hlk : (strB r).size = a.length + 1 + r'.length := q3
        rw [hL1] at Q1 HP HPX
        clear hL1 he
        generalize strB r = S at *
        generalize hk : a.length = k at *
        have hkb : k ≤ 999999 := by omega
        have hks : k + 1 ≤ S.size := by omega
        have hwr : wrap64 ((k : Int) + 1) = (k : Int) + 1 := by unfold wrap64; omega
        have hi1 : (0 : Int) ≤ (k : Int) + 1 := by omega
        have hi2 : (k : Int) + 1 ≤ (S.size : Int) := by omega
        have HLK := Lib.hid hlk
        have hsp : decide ((0 : Int) < (S.size : Int)) = true := decide_eq_true (by omega)
        clear hlk hks
        clear q3 hz hk
        gi_wp2_with (first
          | (refine ⟨trivial, ?_⟩; gi_at_call 77; refine (callsIn_wide.2 (Tryz.strings_IndexByte _ _ _)).mono ?_; rintro e W2 ⟨rfl, rfl⟩; rw [show (Int.toNat 10).toUInt8 = (10 : UInt8) from rfl, HI.out]))
        refine wpIn_region_w 9 (Gr _) (by kernel_rfl) (Below.refl _ _).drew ?_
        refine wpWI_det (t' := ?ct0R1) (l := [8, 7, 6, 5, 4, 3, 2, 1, 0]) 0 (by kernel_rfl) (by decide) (by rfl) (by kernel_rfl) (NQ_free _) (by kernel_rfl) ?cw0R1 ?ch0R1 ?ca0R1 (Eq.refl _) ?cH0R1
        case cw0R1 => (go_simp; done)
        case ch0R1 =>
          intro ds w' hS K hK
          have hc := (bcell hS).1; have hf := (bcell hS).2; have hz := hS.size; (try simp at hz); go_simp; (try go_bits)
          first
            | exact hK _ hS (Gr.refl _)
            | exact hK _ (hS.alloc hS.size _) ((Below.refl _ _).alloc (Nat.le_refl _) _)
        case ca0R1 => (first | (simp [Act.put]; done) | (simp [Act.put, *]; done))
        try dsimp only
        refine wpWI_det (t' := ?ct1R1) (l := [8, 7, 6, 5, 4, 3, 2, 1, 0]) 1 (by kernel_rfl) (by decide) (by rfl) (by kernel_rfl) (NQ_free _) (by kernel_rfl) ?cw1R1 ?ch1R1 ?ca1R1 (Eq.refl _) ?cH1R1
        case cw1R1 => (go_simp; done)
        case ch1R1 =>
          intro ds w' hS K hK
          have hc := (bcell hS).1; have hf := (bcell hS).2; have hz := hS.size; (try simp at hz); go_simp; (try go_bits)
          first
            | exact hK _ hS (Gr.refl _)
            | exact hK _ (hS.alloc hS.size _) ((Below.refl _ _).alloc (Nat.le_refl _) _)
        case ca1R1 => (first | (simp [Act.put]; done) | (simp [Act.put, *]; done))
        try dsimp only
        refine wpWI_det (t' := ?ct2R1) (l := [8, 7, 6, 5, 4, 3, 2, 1, 0]) 2 (by kernel_rfl) (by decide) (by rfl) (by kernel_rfl) (NQ_free _) (by kernel_rfl) ?cw2R1 ?ch2R1 ?ca2R1 (Eq.refl _) ?cH2R1
        case cw2R1 => (go_simp; done)
        case ch2R1 =>
          intro ds w' hS K hK
          have hc := (bcell hS).1; have hf := (bcell hS).2; have hz := hS.size; (try simp at hz); go_simp; (try go_bits)
          first
            | exact hK _ hS (Gr.refl _)
            | exact hK _ (hS.alloc hS.size _) ((Below.refl _ _).alloc (Nat.le_refl _) _)
        case ca2R1 => (first | (simp [Act.put]; done) | (simp [Act.put, *]; done))
        try dsimp only
        refine wpWI_det (t' := ?ct3R1) (l := [8, 7, 6, 5, 4, 3, 2, 1, 0]) 3 (by kernel_rfl) (by decide) (by rfl) (by kernel_rfl) (NQ_free _) (by kernel_rfl) ?cw3R1 ?ch3R1 ?ca3R1 (Eq.refl _) ?cH3R1
        case cw3R1 => (go_simp; done)
        case ch3R1 =>
          intro ds w' hS K hK
          have hc := (bcell hS).1; have hf := (bcell hS).2; have hz := hS.size; (try simp at hz); go_simp; (try go_bits)
          first
            | exact hK _ hS (Gr.refl _)
            | exact hK _ (hS.alloc hS.size _) ((Below.refl _ _).alloc (Nat.le_refl _) _)
        case ca3R1 => (first | (simp [Act.put]; done) | (simp [Act.put, *]; done))
        try dsimp only
        refine wpWI_det (t' := ?ct4R1) (l := [8, 7, 6, 5, 4, 3, 2, 1, 0]) 4 (by kernel_rfl) (by decide) (by rfl) (by kernel_rfl) (NQ_free _) (by kernel_rfl) ?cw4R1 ?ch4R1 ?ca4R1 (Eq.refl _) ?cH4R1
        case cw4R1 => (go_simp; done)
        case ch4R1 =>
          intro ds w' hS K hK
          have hc := (bcell hS).1; have hf := (bcell hS).2; have hz := hS.size; (try simp at hz); go_simp; (try go_bits)
          first
            | exact hK _ hS (Gr.refl _)
            | exact hK _ (hS.alloc hS.size _) ((Below.refl _ _).alloc (Nat.le_refl _) _)
        case ca4R1 => (first | (simp [Act.put]; done) | (simp [Act.put, *]; done))
        try dsimp only
        refine wpWI_det (t' := ?ct5R1) (l := [8, 7, 6, 5, 4, 3, 2, 1, 0]) 5 (by kernel_rfl) (by decide) (by rfl) (by kernel_rfl) (NQ_free _) (by kernel_rfl) ?cw5R1 ?ch5R1 ?ca5R1 (Eq.refl _) ?cH5R1
        case cw5R1 => (go_simp; done)
        case ch5R1 =>
          intro ds w' hS K hK
          have hc := (bcell hS).1; have hf := (bcell hS).2; have hz := hS.size; (try simp at hz); go_simp; (try go_bits)
          first
            | exact hK _ hS (Gr.refl _)
            | exact hK _ (hS.alloc hS.size _) ((Below.refl _ _).alloc (Nat.le_refl _) _)
        case ca5R1 => (first | (simp [Act.put]; done) | (simp [Act.put, *]; done))
        try dsimp only
        refine wpWI_det (t' := ?ct6R1) (l := [8, 7, 6, 5, 4, 3, 2, 1, 0]) 6 (by kernel_rfl) (by decide) (by rfl) (by kernel_rfl) (NQ_free _) (by kernel_rfl) ?cw6R1 ?ch6R1 ?ca6R1 (Eq.refl _) ?cH6R1
        case cw6R1 => (go_simp; done)
        case ch6R1 =>
          intro ds w' hS K hK
          have hc := (bcell hS).1; have hf := (bcell hS).2; have hz := hS.size; (try simp at hz); go_simp; (try go_bits)
          first
            | exact hK _ hS (Gr.refl _)
            | exact hK _ (hS.alloc hS.size _) ((Below.refl _ _).alloc (Nat.le_refl _) _)
        case ca6R1 => (first | (simp [Act.put]; done) | (simp [Act.put, *]; done))
        try dsimp only
        refine wpWI_det (t' := ?ct7R1) (l := [8, 7, 6, 5, 4, 3, 2, 1, 0]) 7 (by kernel_rfl) (by decide) (by rfl) (by kernel_rfl) (NQ_free _) (by kernel_rfl) ?cw7R1 ?ch7R1 ?ca7R1 (Eq.refl _) ?cH7R1
        case cw7R1 => (go_simp; done)
        case ch7R1 =>
          intro ds w' hS K hK
          have hc := (bcell hS).1; have hf := (bcell hS).2; have hz := hS.size; (try simp at hz); go_simp; (try go_bits)
          first
            | exact hK _ hS (Gr.refl _)
            | exact hK _ (hS.alloc hS.size _) ((Below.refl _ _).alloc (Nat.le_refl _) _)
        case ca7R1 => (first | (simp [Act.put]; done) | (simp [Act.put, *]; done))
        try dsimp only
        refine wpWI_det (t' := ?ct8R1) (l := [8, 7, 6, 5, 4, 3, 2, 1, 0]) 8 (by kernel_rfl) (by decide) (by rfl) (by kernel_rfl) (NQ_free _) (by kernel_rfl) ?cw8R1 ?ch8R1 ?ca8R1 (Eq.refl _) ?cH8R1
        case cw8R1 => (go_simp; done)
        case ch8R1 =>
          intro ds w' hS K hK
          have hc := (bcell hS).1; have hf := (bcell hS).2; have hz := hS.size; (try simp at hz); go_simp; (try go_bits)
          first
            | exact hK _ hS (Gr.refl _)
            | exact hK _ (hS.alloc hS.size _) ((Below.refl _ _).alloc (Nat.le_refl _) _)
        case ca8R1 => (first | (simp [Act.put]; done) | (simp [Act.put, *]; done))
        try dsimp only
        refine wpWI_stop (by kernel_rfl) ?_
        intro wI hgI hSI
        have hgI' := only_of_below hSI (some Bx)
        have hbI : Boxed wI Bx 9 (.string S) := (hSI.block Bx l0).trans HB.out
        have hjI := HJ.out
        refine wpAnyIn_ready (rs := [9]) (by kernel_rfl) (by simp) (AllReadyIn.cons (by rfl) ?_ AllReadyIn.nil)
        have c1 : wI.cell? ⟨Bx, 0, none⟩ = some (.string S) := Blk.cell hbI 0
        have f1 : wI.frozen? ⟨Bx, 0, none⟩ = false := Blk.frozen hbI 0
        intro K hK
        go_simp
        try simp only [Act.put]
        refine hK _ _ ?_
        clear hK K
        refine wpAnyIn_done (by kernel_rfl) ?_ _
        unfold NQ
        dsimp only
        rw [Q1.out, Q2.out]
        have hjI := hHJ.out _ _ _ (hHJ.out _ _ _ HJ.out hgI') (grownBy_setCell' wI Bx (.string (strB r')))
        have hb' : Boxed (wI.setCell ⟨Bx, 0, none⟩ (.string (strB r'))) Bx 9 (.string (strB r')) := Blk.set_ hbI 0 _
        have HB' := Lib.hid hb'
        obtain ⟨fn, tmps, assign, body, hy, hR⟩ := hHY.out pre L1 _ HPX.out hjI
        clear hb' hbI c1 f1 hgI hSI hgI' hjI
        generalize wI.setCell ⟨Bx, 0, none⟩ (.string (strB r')) = WJ at *
        gi_wp2
        refine hR.mono ?_
        rintro e W3 (⟨rfl, hJ3, hk3⟩ | ⟨rfl, hJx3⟩)
        · have hb3 : Boxed W3 Bx 9 (.string (strB r')) := hk3.trans HB'.out
          have hc3 : W3.cell? ⟨Bx, 0, none⟩ = some (.string (strB r')) := Blk.cell hb3 0
          have HB3 := Lib.hid hb3
          clear hb3 hk3 hR hy
          gi_wp2
          go_roundw
          case rel => exact ⟨_, r', HP, hr', HB3.out, hJ3⟩
          case measure => rw [hc3, c0]; show (strB r').size < S.size; rw [strB_size, HLK.out]; omega
        · gi_wp2
          refine bodyPost_ret (results_none rfl _ _ _) rfl ?_
          exact ⟨⟨_, rfl⟩, .inr ⟨_, HPX.out, hJx3⟩⟩

theorem lines_seq (n : Nat) (hn : 1 ≤ n) (Bx : Nat) (s : ByteArray) (hs : s.size ≤ 1000000) : SeqBox Fence.wide n Tryz.prog 76 #[.pointer (some ⟨Bx, 0, none⟩)] (fun x : ByteArray => #[Value.string x]) Bx 9 (.string s) ((linesY s.data.toList).map strB) :=
  fun l J Jx W hB hJ hY h0 => lines1_in n hn l Bx s hs J Jx W hB hJ hY h0
end Go.Proofs.YtaekcfancfoccaaGreatDoor
