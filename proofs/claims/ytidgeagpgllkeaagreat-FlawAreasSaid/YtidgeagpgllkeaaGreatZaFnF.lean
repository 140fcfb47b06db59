/- Contract: the reference's two ascending lists in one. Contracts: the code's groups where the marks or the rule are not right; the reference's groups. The reference's Areas: labels are spread. -/
import Derived.Deep.DeepCutAuto
import Derived.Test.YtidgeagpgllkeaaGreatZaFfA
import Derived.Test.YtidgeagpgllkeaaGreatZaFgA
import Derived.Test.YtidgeagpgllkeaaGreatZaFcG
import Derived.Test.YtidgeagpgllkeaaGreatZaFeA
import Derived.Test.YtidgeagpgllkeaaGreatZaFcD
import Derived.Test.YtidgeagpgllkeaaGreatZaFnC
import Derived.Test.YtidgeagpgllkeaaGreatZaFnD
namespace Go.Proofs.YtidgeagpgllkeaaGreat
open Go.RowKit

def tlA (g o c : Nat) : Option Addr := if c = 1 then some ⟨g, o, none⟩ else some ⟨g, o + 1, none⟩
theorem Row.tail {w : World} {B n c g o : Nat} {xs : List Value} (h : Row w B 1 (some ⟨g, o, none⟩) n xs) (hc : n ≤ c) : Row w B 1 (tlA g o c) (n - 1) (xs.drop 1) := by
  refine ⟨by rw [List.length_drop, h.1]; omega, fun hn => ?_⟩
  obtain ⟨g', o', e, hg, hx⟩ := h.2 (by omega)
  injection e with e; injection e with e1 e2 e3
  subst e1 e2
  refine ⟨g, o + 1, ?_, hg, fun j u hj => ?_⟩
  · unfold tlA; rw [if_neg (by omega)]
  · rw [List.getElem?_drop] at hj
    have := hx _ u hj
    rwa [show o + 1 + j = o + (1 + j) by omega]

end Go.Proofs.YtidgeagpgllkeaaGreat

namespace Go.Proofs.YtidgeagpgllkeaaGreat
open Go.RowKit Go.Shelf

def bval : Value → Nat
  | .bool true => 1
  | _ => 0

end Go.Proofs.YtidgeagpgllkeaaGreat

namespace Go.Proofs.YtidgeagpgllkeaaGreat
open Go.RowKit

/-- A round of the labels, up to a pair. -/
structure RdI (g : Int → Int → Int) (level : Int) (corners : Bool) (P : List (Int × Int)) (F0 : List Int) (i k : Nat) (D : Bool) (F : List Int) : Prop where
  lab : Lab g level corners P F
  yes : D = true → sumN F < sumN F0
  no : D = false → F = F0 ∧ ∀ (i' k' : Nat) x y, (i' < i ∧ k' < i' ∨ i' = i ∧ k' < k) → P[i']? = some x → P[k']? = some y → nbB corners x y = true → F[i']? = F[k']?
theorem RdI.start {g : Int → Int → Int} {level : Int} {corners : Bool} {P : List (Int × Int)} {F : List Int} (h : Lab g level corners P F) : RdI g level corners P F 0 0 false F :=
  ⟨h, fun e => (by cases e), fun _ => ⟨rfl, fun i' k' x y hh => (by omega)⟩⟩
theorem RdI.skip {g : Int → Int → Int} {level : Int} {corners : Bool} {P : List (Int × Int)} {F0 F : List Int} {i k : Nat} {D : Bool} (h : RdI g level corners P F0 i k D F) {x y : Int × Int} {fi fk : Int} (hx : P[i]? = some x) (hy : P[k]? = some y) (hi : F[i]? = some fi) (hk : F[k]? = some fk) (he : (nbB corners x y && (fi != fk)) = false) : RdI g level corners P F0 i (k + 1) D F := by
  refine ⟨h.lab, h.yes, fun e => ⟨(h.no e).1, fun i' k' x' y' hh hx' hy' hn => ?_⟩⟩
  by_cases hk' : i' = i ∧ k' = k
  · obtain ⟨rfl, rfl⟩ := hk'
    rw [hx] at hx'
    rw [hy] at hy'
    obtain rfl : x = x' := by simpa using hx'
    obtain rfl : y = y' := by simpa using hy'
    rw [hn, Bool.true_and] at he
    have : fi = fk := by simpa using he
    rw [hi, hk, this]
  · exact (h.no e).2 i' k' x' y' (by omega) hx' hy' hn
theorem RdI.store {g : Int → Int → Int} {level : Int} {corners : Bool} {P : List (Int × Int)} {F0 F : List Int} {i k : Nat} {D : Bool} (hP : Pls g level P) (h : RdI g level corners P F0 i k D F) {x y : Int × Int} {fi fk : Int} (hx : P[i]? = some x) (hy : P[k]? = some y) (hi : F[i]? = some fi) (hk : F[k]? = some fk) (hki : k < i) (he : (nbB corners x y && (fi != fk)) = true) : RdI g level corners P F0 i (k + 1) true ((F.set i (min fi fk)).set k (min fi fk)) := by
  rw [Bool.and_eq_true] at he
  have hne : fi ≠ fk := by simpa using he.2
  refine ⟨h.lab.step hP hi hk hki hx hy he.1, fun _ => ?_, fun e => by cases e⟩
  have h1 := sumN_step hi hk hki (h.lab.low i fi hi).1 (h.lab.low k fk hk).1 hne
  cases hD : D
  · rw [← (h.no hD).1]; exact h1
  · have := h.yes hD; omega
theorem RdI.next {g : Int → Int → Int} {level : Int} {corners : Bool} {P : List (Int × Int)} {F0 F : List Int} {i : Nat} {D : Bool} (h : RdI g level corners P F0 i i D F) : RdI g level corners P F0 (i + 1) 0 D F :=
  ⟨h.lab, h.yes, fun e => ⟨(h.no e).1, fun i' k' x y hh => (h.no e).2 i' k' x y (by omega)⟩⟩
theorem RdI.flat {g : Int → Int → Int} {level : Int} {corners : Bool} {P : List (Int × Int)} {F0 F : List Int} (h : RdI g level corners P F0 P.length 0 false F) : FlatL corners P F := fun i k x y hki hx hy hn =>
  (h.no rfl).2 i k x y (.inl ⟨(List.getElem?_eq_some_iff.1 hx).1, hki⟩) hx hy hn

/-- The sum of the labels that a block holds. -/
def mLab (w : World) (p N : Nat) : Nat := match w.heap[p]? with
  | some (.cells cs _ _) => sumN ((cs.toList.take N).map intOf)
  | _ => 0
theorem mLab_eq {V W : World} {p N : Nat} {F : List Int} (h : LbM V p N F W) : mLab W p N = sumN F := by
  rcases h.own.2 with ⟨e, _⟩ | ⟨b, cap, cur, e, hb, hh, hnc, hcm, hsz, htk⟩
  · cases e
  · injection e with e1 e2 e3
    injection e1 with e1
    injection e1 with e1
    subst e1
    unfold mLab
    rw [hh]
    have e4 : cur.toList.take N = intsC F := by simpa using htk
    show sumN ((cur.toList.take N).map intOf) = sumN F
    rw [e4]
    congr 1
    unfold intsC
    rw [List.map_map]
    exact List.map_id'' (fun x => rfl) F

set_option maxRecDepth 100000 in
set_option maxHeartbeats 8000000 in
/-- A cell is held against those before it (loop 4). -/
theorem labLoop4 {V wr0 : World} {q p BP : Nat} {P : List (Int × Int)} {A5 : Option Addr} {c5 : Nat} {g : Int → Int → Int} {level : Int} {corners : Bool} (b3 : Blk V q 24 #[.int .i64 level, .bool corners]) (hP : Row V BP 2 A5 P.length (cellsC P)) (hBP : BP ≤ V.heap.size) (HPL : Hid (Pls g level P)) (HPB : Hid (∀ x ∈ P, (-1000000 ≤ x.1 ∧ x.1 ≤ 1000000) ∧ (-1000000 ≤ x.2 ∧ x.2 ≤ 1000000))) (hPl : P.length ≤ 4000) {F0 F : List Int} {D : Bool} {i : Nat} (hi : i < P.length) (HR : Hid (RdI g level corners P F0 i 0 D F)) (M : LbM V p P.length F wr0) {t0 t1 t2 t4 t7 t11 t12 t13 t14 t15 t16 t17 t18 t19 t20 t21 t22 t23 t24 t25 t26 t27 t28 t29 t30 t31 t32 t33 t34 t35 t36 t37 t38 t39 t40 t41 t42 t43 t44 t45 t46 t47 t48 t49 t50 t51 t52 t53 t54 t55 t56 t57 t58 t59 t60 t61 t62 t63 t64 t65 t66 t67 t68 t69 t70 t71 t72 t73 t74 t75 t76 t77 t78 t79 t80 t81 t82 t83 t84 t85 t86 t87 t88 t89 t90 t91 t92 t93 t94 t95 t96 t97 t98 t99 t100 t101 t102 t103 t104 t105 t106 t107 t108 t109 t110 t111 t112 t113 t114 t115 t116 t117 t118 t119 t120 t121 t122 t123 t124 t125 t126 t127 t128 t129 t130 t131 t132 t133 t134 t135 t136 t137 t138 t139 t140 t141 t142 t143 t144 t145 t146 t147 : Value} {ds : List Deferred} (Q' : Exit → Act → World → Prop)
    (h : ∀ (t10 t40 t41 t42 t43 t44 t45 t46 t47 t48 t49 t50 t51 t52 t53 t54 t55 t56 t57 t58 t59 t60 t61 t62 t63 t64 t65 t66 t67 t68 t69 t70 t71 t72 t73 t74 t75 t76 t77 t78 t79 t80 t81 t82 t83 t84 t85 t86 t87 t88 t89 t90 : Value) (D : Bool) (F : List Int) (w' : World), Hid (RdI g level corners P F0 i i D F) → LbM V p P.length F w' → Q' (.exit 6) ⟨#[t0, t1, t2, .pointer (some ⟨q, 0, none⟩), t4, .slice A5 P.length c5, .slice (some ⟨p, 0, none⟩) P.length P.length, t7, .bool D, .int .i64 (i : Int), t10, t11, t12, t13, t14, t15, t16, t17, t18, t19, t20, t21, t22, t23, t24, t25, t26, t27, t28, t29, t30, t31, t32, t33, t34, t35, t36, t37, t38, t39, t40, t41, t42, t43, t44, t45, t46, t47, t48, t49, t50, t51, t52, t53, t54, t55, t56, t57, t58, t59, t60, t61, t62, t63, t64, t65, t66, t67, t68, t69, t70, t71, t72, t73, t74, t75, t76, t77, t78, t79, t80, t81, t82, t83, t84, t85, t86, t87, t88, t89, t90, t91, t92, t93, t94, t95, t96, t97, t98, t99, t100, t101, t102, t103, t104, t105, t106, t107, t108, t109, t110, t111, t112, t113, t114, t115, t116, t117, t118, t119, t120, t121, t122, t123, t124, t125, t126, t127, t128, t129, t130, t131, t132, t133, t134, t135, t136, t137, t138, t139, t140, t141, t142, t143, t144, t145, t146, t147], ds⟩ w') :
    (Code.loop (bodyOf Tryz.f65 3)).wp Tryz.prog Q' ⟨#[t0, t1, t2, .pointer (some ⟨q, 0, none⟩), t4, .slice A5 P.length c5, .slice (some ⟨p, 0, none⟩) P.length P.length, t7, .bool D, .int .i64 (i : Int), .int .i64 0, t11, t12, t13, t14, t15, t16, t17, t18, t19, t20, t21, t22, t23, t24, t25, t26, t27, t28, t29, t30, t31, t32, t33, t34, t35, t36, t37, t38, t39, t40, t41, t42, t43, t44, t45, t46, t47, t48, t49, t50, t51, t52, t53, t54, t55, t56, t57, t58, t59, t60, t61, t62, t63, t64, t65, t66, t67, t68, t69, t70, t71, t72, t73, t74, t75, t76, t77, t78, t79, t80, t81, t82, t83, t84, t85, t86, t87, t88, t89, t90, t91, t92, t93, t94, t95, t96, t97, t98, t99, t100, t101, t102, t103, t104, t105, t106, t107, t108, t109, t110, t111, t112, t113, t114, t115, t116, t117, t118, t119, t120, t121, t122, t123, t124, t125, t126, t127, t128, t129, t130, t131, t132, t133, t134, t135, t136, t137, t138, t139, t140, t141, t142, t143, t144, t145, t146, t147], ds⟩ wr0 := by
  have H := Lib.hid h; clear h
  conv in (bodyOf _ _) => whnf
  dsimp only
  go_loopw [8, 10] (fun s8 s10 wr => ∃ (k : Nat) (D : Bool) (F : List Int), k ≤ i ∧ s8 = .bool D ∧ s10 = .int .i64 k ∧ Hid (RdI g level corners P F0 i k D F) ∧ LbM V p P.length F wr) (fun _ s10 _ => i - (intOf s10).toNat)
  case atStart => exact ⟨0, D, F, Nat.zero_le _, rfl, by go_num, HR, M⟩
  case round =>
    clear M HR
    obtain ⟨k, D, F, hk, rfl, rfl, HR, M⟩ := hrel
    by_cases hlt : k < i
    · have hx := M.below
      have hkP : k < P.length := by omega
      have hlen := M.len
      obtain ⟨fi, hfi⟩ : ∃ f, F[i]? = some f := ⟨F[i]'(by omega), List.getElem?_eq_getElem _⟩
      obtain ⟨fk, hfk⟩ : ∃ f, F[k]? = some f := ⟨F[k]'(by omega), List.getElem?_eq_getElem _⟩
      obtain ⟨g5, o5, hA5, hg5, x0, x1⟩ := cellPair (hP.below hx hBP) hi
      obtain ⟨g5', o5', hA5', _, y0, y1⟩ := cellPair (hP.below hx hBP) hkP
      have hpi : P[i]? = some P[i] := List.getElem?_eq_getElem hi
      have hpk : P[k]? = some P[k] := List.getElem?_eq_getElem hkP
      have hb1 := HPB.out _ (List.getElem_mem hi)
      have hb2 := HPB.out _ (List.getElem_mem hkP)
      have HSK := Lib.hid (fun e => HR.out.skip hpi hpk hfi hfk e)
      have HST := Lib.hid (fun e => HR.out.store HPL.out hpi hpk hfi hfk hlt e)
      generalize P[i] = x at *
      generalize P[k] = y at *
      subst hA5
      obtain ⟨rfl, rfl⟩ : g5 = g5' ∧ o5 = o5' := by simpa using hA5'
      clear hA5' hpi hpk
      have hzx := Below.size hx
      have hf0 := M.cell hfi
      have hf1 := M.cell hfk
      have hpl := M.lt
      go_upto_region 16 with fail
      refine labReg16 (b3.gr hx) x0 x1 y0 y1 (by omega) hi hkP rfl hb1.1 hb1.2 hb2.1 hb2.2 hf0 hf1 hpl _ ?_
      intro t45 t46 t47 t48 t49 t50 t51 t52 t53 t54 t55 t56 t57 t58 t59 t60 t61 t62 t63 t64 t65 w16 hB16
      try dsimp only
      have M16 := M.gr hB16
      clear hf0 hf1 hpl x0 x1 y0 y1 M hB16 hx hzx
      obtain ⟨E, hE⟩ : ∃ E, (nbB corners x y && (fi != fk)) = E := ⟨_, rfl⟩
      rw [hE] at HSK HST ⊢
      clear hE
      cases E
      · have HX := Lib.hid (HSK.out rfl)
        clear HSK HST
        go_wp2
        exact ⟨⟨k + 1, D, F, by omega, rfl, by go_num, HX, M16⟩, by simp [intOf]; omega⟩
      · have HX := Lib.hid (HST.out rfl)
        clear HSK HST
        go_upto_region 17 with fail
        refine labReg17 M16 hfi hfk hlt hi (by omega) _ ?_
        intro t67 t68 t69 t70 t71 t72 t73 t74 t75 t76 t77 t78 t79 t80 t81 t82 t83 t84 t85 t86 t87 t88 t89 t90 w17 M17
        try dsimp only
        clear M16 hfi hfk
        go_wp2
        exact ⟨⟨k + 1, true, _, by omega, rfl, by go_num, HX, M17⟩, by simp [intOf]; omega⟩
    · obtain rfl : k = i := by omega
      go_wp2
      exact H.out _ _ _ _ _ _ _ _ _ _ _ _ _ _ _ _ _ _ _ _ _ _ _ _ _ _ _ _ _ _ _ _ _ _ _ _ _ _ _ _ _ _ _ _ _ _ _ _ _ _ _ _ D F wr HR M

set_option maxRecDepth 100000 in
set_option maxHeartbeats 8000000 in
/-- All cells are held against those before them (loop 3). -/
theorem labLoop3 {V wr0 : World} {q p BP : Nat} {P : List (Int × Int)} {A5 : Option Addr} {c5 : Nat} {g : Int → Int → Int} {level : Int} {corners : Bool} (b3 : Blk V q 24 #[.int .i64 level, .bool corners]) (hP : Row V BP 2 A5 P.length (cellsC P)) (hBP : BP ≤ V.heap.size) (HPL : Hid (Pls g level P)) (HPB : Hid (∀ x ∈ P, (-1000000 ≤ x.1 ∧ x.1 ≤ 1000000) ∧ (-1000000 ≤ x.2 ∧ x.2 ≤ 1000000))) (hPl : P.length ≤ 4000) {F0 F : List Int} {D : Bool} (HR : Hid (RdI g level corners P F0 0 0 D F)) (M : LbM V p P.length F wr0) {t0 t1 t2 t4 t7 t10 t11 t12 t13 t14 t15 t16 t17 t18 t19 t20 t21 t22 t23 t24 t25 t26 t27 t28 t29 t30 t31 t32 t33 t34 t35 t36 t37 t38 t39 t40 t41 t42 t43 t44 t45 t46 t47 t48 t49 t50 t51 t52 t53 t54 t55 t56 t57 t58 t59 t60 t61 t62 t63 t64 t65 t66 t67 t68 t69 t70 t71 t72 t73 t74 t75 t76 t77 t78 t79 t80 t81 t82 t83 t84 t85 t86 t87 t88 t89 t90 t91 t92 t93 t94 t95 t96 t97 t98 t99 t100 t101 t102 t103 t104 t105 t106 t107 t108 t109 t110 t111 t112 t113 t114 t115 t116 t117 t118 t119 t120 t121 t122 t123 t124 t125 t126 t127 t128 t129 t130 t131 t132 t133 t134 t135 t136 t137 t138 t139 t140 t141 t142 t143 t144 t145 t146 t147 : Value} {ds : List Deferred} (Q' : Exit → Act → World → Prop)
    (h : ∀ (t9 t10 t34 t35 t36 t37 t38 t39 t40 t41 t42 t43 t44 t45 t46 t47 t48 t49 t50 t51 t52 t53 t54 t55 t56 t57 t58 t59 t60 t61 t62 t63 t64 t65 t66 t67 t68 t69 t70 t71 t72 t73 t74 t75 t76 t77 t78 t79 t80 t81 t82 t83 t84 t85 t86 t87 t88 t89 t90 : Value) (D : Bool) (F : List Int) (w' : World), Hid (RdI g level corners P F0 P.length 0 D F) → LbM V p P.length F w' → Q' (.exit 4) ⟨#[t0, t1, t2, .pointer (some ⟨q, 0, none⟩), t4, .slice A5 P.length c5, .slice (some ⟨p, 0, none⟩) P.length P.length, t7, .bool D, t9, t10, t11, t12, t13, t14, t15, t16, t17, t18, t19, t20, t21, t22, t23, t24, t25, t26, t27, t28, t29, t30, t31, t32, t33, t34, t35, t36, t37, t38, t39, t40, t41, t42, t43, t44, t45, t46, t47, t48, t49, t50, t51, t52, t53, t54, t55, t56, t57, t58, t59, t60, t61, t62, t63, t64, t65, t66, t67, t68, t69, t70, t71, t72, t73, t74, t75, t76, t77, t78, t79, t80, t81, t82, t83, t84, t85, t86, t87, t88, t89, t90, t91, t92, t93, t94, t95, t96, t97, t98, t99, t100, t101, t102, t103, t104, t105, t106, t107, t108, t109, t110, t111, t112, t113, t114, t115, t116, t117, t118, t119, t120, t121, t122, t123, t124, t125, t126, t127, t128, t129, t130, t131, t132, t133, t134, t135, t136, t137, t138, t139, t140, t141, t142, t143, t144, t145, t146, t147], ds⟩ w') :
    (Code.loop (bodyOf Tryz.f65 2)).wp Tryz.prog Q' ⟨#[t0, t1, t2, .pointer (some ⟨q, 0, none⟩), t4, .slice A5 P.length c5, .slice (some ⟨p, 0, none⟩) P.length P.length, t7, .bool D, .int .i64 0, t10, t11, t12, t13, t14, t15, t16, t17, t18, t19, t20, t21, t22, t23, t24, t25, t26, t27, t28, t29, t30, t31, t32, t33, t34, t35, t36, t37, t38, t39, t40, t41, t42, t43, t44, t45, t46, t47, t48, t49, t50, t51, t52, t53, t54, t55, t56, t57, t58, t59, t60, t61, t62, t63, t64, t65, t66, t67, t68, t69, t70, t71, t72, t73, t74, t75, t76, t77, t78, t79, t80, t81, t82, t83, t84, t85, t86, t87, t88, t89, t90, t91, t92, t93, t94, t95, t96, t97, t98, t99, t100, t101, t102, t103, t104, t105, t106, t107, t108, t109, t110, t111, t112, t113, t114, t115, t116, t117, t118, t119, t120, t121, t122, t123, t124, t125, t126, t127, t128, t129, t130, t131, t132, t133, t134, t135, t136, t137, t138, t139, t140, t141, t142, t143, t144, t145, t146, t147], ds⟩ wr0 := by
  have H := Lib.hid h; clear h
  conv in (bodyOf _ _) => whnf
  dsimp only
  go_loopw [8, 9] (fun s8 s9 wr => ∃ (i : Nat) (D : Bool) (F : List Int), i ≤ P.length ∧ s8 = .bool D ∧ s9 = .int .i64 i ∧ Hid (RdI g level corners P F0 i 0 D F) ∧ LbM V p P.length F wr) (fun _ s9 _ => P.length - (intOf s9).toNat)
  case atStart => exact ⟨0, D, F, Nat.zero_le _, rfl, by go_num, HR, M⟩
  case round =>
    clear M HR
    obtain ⟨i, D, F, hi, rfl, rfl, HR, M⟩ := hrel
    by_cases hlt : i < P.length
    · have i1 : ((i : Int) < (P.length : Int)) := by omega
      go_wp2
      have hl4 := labLoop4 (p := p) (wr0 := wr) (c5 := c5) (F := F) (D := D) b3 hP hBP HPL HPB hPl hlt HR
      unfold bodyOf at hl4
      conv at hl4 in (Option.getD _ Code.skip) => whnf
      refine hl4 M _ ?_
      clear hl4 M HR
      intro t10 t40 t41 t42 t43 t44 t45 t46 t47 t48 t49 t50 t51 t52 t53 t54 t55 t56 t57 t58 t59 t60 t61 t62 t63 t64 t65 t66 t67 t68 t69 t70 t71 t72 t73 t74 t75 t76 t77 t78 t79 t80 t81 t82 t83 t84 t85 t86 t87 t88 t89 t90 D F w1 HR M
      have HX := Lib.hid HR.out.next
      go_wp2
      exact ⟨⟨i + 1, D, F, by omega, rfl, by go_num, HX, M⟩, by simp [intOf]; omega⟩
    · obtain rfl : i = P.length := by omega
      go_wp2
      exact H.out _ _ _ _ _ _ _ _ _ _ _ _ _ _ _ _ _ _ _ _ _ _ _ _ _ _ _ _ _ _ _ _ _ _ _ _ _ _ _ _ _ _ _ _ _ _ _ _ _ _ _ _ _ _ _ _ _ _ _ D F wr HR M

set_option maxRecDepth 100000 in
set_option maxHeartbeats 8000000 in
/-- Until no label changes (loop 2). -/
theorem labLoop2 {V wr0 : World} {q p BP : Nat} {P : List (Int × Int)} {A5 : Option Addr} {c5 : Nat} {g : Int → Int → Int} {level : Int} {corners : Bool} (b3 : Blk V q 24 #[.int .i64 level, .bool corners]) (hP : Row V BP 2 A5 P.length (cellsC P)) (hBP : BP ≤ V.heap.size) (HPL : Hid (Pls g level P)) (HPB : Hid (∀ x ∈ P, (-1000000 ≤ x.1 ∧ x.1 ≤ 1000000) ∧ (-1000000 ≤ x.2 ∧ x.2 ≤ 1000000))) (hPl : P.length ≤ 4000) {F : List Int} (HL : Hid (Lab g level corners P F)) (M : LbM V p P.length F wr0) {t0 t1 t2 t4 t7 t9 t10 t11 t12 t13 t14 t15 t16 t17 t18 t19 t20 t21 t22 t23 t24 t25 t26 t27 t28 t29 t30 t31 t32 t33 t34 t35 t36 t37 t38 t39 t40 t41 t42 t43 t44 t45 t46 t47 t48 t49 t50 t51 t52 t53 t54 t55 t56 t57 t58 t59 t60 t61 t62 t63 t64 t65 t66 t67 t68 t69 t70 t71 t72 t73 t74 t75 t76 t77 t78 t79 t80 t81 t82 t83 t84 t85 t86 t87 t88 t89 t90 t91 t92 t93 t94 t95 t96 t97 t98 t99 t100 t101 t102 t103 t104 t105 t106 t107 t108 t109 t110 t111 t112 t113 t114 t115 t116 t117 t118 t119 t120 t121 t122 t123 t124 t125 t126 t127 t128 t129 t130 t131 t132 t133 t134 t135 t136 t137 t138 t139 t140 t141 t142 t143 t144 t145 t146 t147 : Value} {ds : List Deferred} (Q' : Exit → Act → World → Prop)
    (h : ∀ (t8 t9 t10 t33 t34 t35 t36 t37 t38 t39 t40 t41 t42 t43 t44 t45 t46 t47 t48 t49 t50 t51 t52 t53 t54 t55 t56 t57 t58 t59 t60 t61 t62 t63 t64 t65 t66 t67 t68 t69 t70 t71 t72 t73 t74 t75 t76 t77 t78 t79 t80 t81 t82 t83 t84 t85 t86 t87 t88 t89 t90 : Value) (F : List Int) (w' : World), Hid (Lab g level corners P F ∧ FlatL corners P F) → LbM V p P.length F w' → Q' (.exit 2) ⟨#[t0, t1, t2, .pointer (some ⟨q, 0, none⟩), t4, .slice A5 P.length c5, .slice (some ⟨p, 0, none⟩) P.length P.length, t7, t8, t9, t10, t11, t12, t13, t14, t15, t16, t17, t18, t19, t20, t21, t22, t23, t24, t25, t26, t27, t28, t29, t30, t31, t32, t33, t34, t35, t36, t37, t38, t39, t40, t41, t42, t43, t44, t45, t46, t47, t48, t49, t50, t51, t52, t53, t54, t55, t56, t57, t58, t59, t60, t61, t62, t63, t64, t65, t66, t67, t68, t69, t70, t71, t72, t73, t74, t75, t76, t77, t78, t79, t80, t81, t82, t83, t84, t85, t86, t87, t88, t89, t90, t91, t92, t93, t94, t95, t96, t97, t98, t99, t100, t101, t102, t103, t104, t105, t106, t107, t108, t109, t110, t111, t112, t113, t114, t115, t116, t117, t118, t119, t120, t121, t122, t123, t124, t125, t126, t127, t128, t129, t130, t131, t132, t133, t134, t135, t136, t137, t138, t139, t140, t141, t142, t143, t144, t145, t146, t147], ds⟩ w') :
    (Code.loop (bodyOf Tryz.f65 1)).wp Tryz.prog Q' ⟨#[t0, t1, t2, .pointer (some ⟨q, 0, none⟩), t4, .slice A5 P.length c5, .slice (some ⟨p, 0, none⟩) P.length P.length, t7, .bool true, t9, t10, t11, t12, t13, t14, t15, t16, t17, t18, t19, t20, t21, t22, t23, t24, t25, t26, t27, t28, t29, t30, t31, t32, t33, t34, t35, t36, t37, t38, t39, t40, t41, t42, t43, t44, t45, t46, t47, t48, t49, t50, t51, t52, t53, t54, t55, t56, t57, t58, t59, t60, t61, t62, t63, t64, t65, t66, t67, t68, t69, t70, t71, t72, t73, t74, t75, t76, t77, t78, t79, t80, t81, t82, t83, t84, t85, t86, t87, t88, t89, t90, t91, t92, t93, t94, t95, t96, t97, t98, t99, t100, t101, t102, t103, t104, t105, t106, t107, t108, t109, t110, t111, t112, t113, t114, t115, t116, t117, t118, t119, t120, t121, t122, t123, t124, t125, t126, t127, t128, t129, t130, t131, t132, t133, t134, t135, t136, t137, t138, t139, t140, t141, t142, t143, t144, t145, t146, t147], ds⟩ wr0 := by
  have H := Lib.hid h; clear h
  conv in (bodyOf _ _) => whnf
  dsimp only
  go_loopw [8] (fun s8 wr => ∃ (D : Bool) (F : List Int), s8 = .bool D ∧ Hid (Lab g level corners P F ∧ (D = false → FlatL corners P F)) ∧ LbM V p P.length F wr) (fun s8 wr => 2 * mLab wr p P.length + bval s8)
  case atStart => exact ⟨true, F, rfl, Lib.hid ⟨HL.out, fun e => (by cases e)⟩, M⟩
  case round =>
    clear M HL
    obtain ⟨D, F, rfl, HL, M⟩ := hrel
    cases D
    · have HX := Lib.hid (And.intro HL.out.1 (HL.out.2 rfl))
      go_wp2
      exact H.out _ _ _ _ _ _ _ _ _ _ _ _ _ _ _ _ _ _ _ _ _ _ _ _ _ _ _ _ _ _ _ _ _ _ _ _ _ _ _ _ _ _ _ _ _ _ _ _ _ _ _ _ _ _ _ _ _ _ _ _ _ F wr HX M
    · have hm := mLab_eq M
      have HR := Lib.hid (RdI.start HL.out.1)
      go_wp2
      have hl3 := labLoop3 (p := p) (wr0 := wr) (c5 := c5) (F := F) (D := false) b3 hP hBP HPL HPB hPl HR
      unfold bodyOf at hl3
      conv at hl3 in (Option.getD _ Code.skip) => whnf
      refine hl3 M _ ?_
      clear hl3 M HR
      intro t9 t10 t34 t35 t36 t37 t38 t39 t40 t41 t42 t43 t44 t45 t46 t47 t48 t49 t50 t51 t52 t53 t54 t55 t56 t57 t58 t59 t60 t61 t62 t63 t64 t65 t66 t67 t68 t69 t70 t71 t72 t73 t74 t75 t76 t77 t78 t79 t80 t81 t82 t83 t84 t85 t86 t87 t88 t89 t90 D2 F2 w1 HR M1
      have hm1 := mLab_eq M1
      cases D2
      · obtain rfl : F2 = F := (HR.out.no rfl).1
        have HX : Hid (Lab g level corners P F2 ∧ (false = false → FlatL corners P F2)) := Lib.hid ⟨HR.out.lab, fun _ => HR.out.flat⟩
        clear HR
        go_wp2
        exact ⟨⟨false, F2, rfl, HX, M1⟩, by rw [hm, hm1]; simp [bval]⟩
      · have hlt := HR.out.yes rfl
        have HX : Hid (Lab g level corners P F2 ∧ (true = false → FlatL corners P F2)) := Lib.hid ⟨HR.out.lab, fun e => (by cases e)⟩
        clear HR
        go_wp2
        exact ⟨⟨true, F2, rfl, HX, M1⟩, by rw [hm, hm1]; simp only [bval]; omega⟩

set_option maxRecDepth 100000 in
set_option maxHeartbeats 8000000 in
/-- Each cell has its own number (loop 1). -/
theorem labLoop1 {V wr0 : World} {p : Nat} {P : List (Int × Int)} {A5 : Option Addr} {c5 : Nat} (hPl : P.length ≤ 4000) {F : List Int} (M : LbM V p P.length F wr0) {t0 t1 t2 t3 t4 t8 t9 t10 t11 t12 t13 t14 t15 t16 t17 t18 t19 t20 t21 t22 t23 t24 t25 t26 t27 t28 t29 t30 t31 t32 t33 t34 t35 t36 t37 t38 t39 t40 t41 t42 t43 t44 t45 t46 t47 t48 t49 t50 t51 t52 t53 t54 t55 t56 t57 t58 t59 t60 t61 t62 t63 t64 t65 t66 t67 t68 t69 t70 t71 t72 t73 t74 t75 t76 t77 t78 t79 t80 t81 t82 t83 t84 t85 t86 t87 t88 t89 t90 t91 t92 t93 t94 t95 t96 t97 t98 t99 t100 t101 t102 t103 t104 t105 t106 t107 t108 t109 t110 t111 t112 t113 t114 t115 t116 t117 t118 t119 t120 t121 t122 t123 t124 t125 t126 t127 t128 t129 t130 t131 t132 t133 t134 t135 t136 t137 t138 t139 t140 t141 t142 t143 t144 t145 t146 t147 : Value} {ds : List Deferred} (Q' : Exit → Act → World → Prop)
    (h : ∀ (t7 t23 t24 t25 t26 t27 t28 t29 t30 t31 t32 : Value) (w' : World), LbM V p P.length (numsTo P.length) w' → Q' (.exit 0) ⟨#[t0, t1, t2, t3, t4, .slice A5 P.length c5, .slice (some ⟨p, 0, none⟩) P.length P.length, t7, t8, t9, t10, t11, t12, t13, t14, t15, t16, t17, t18, t19, t20, t21, t22, t23, t24, t25, t26, t27, t28, t29, t30, t31, t32, t33, t34, t35, t36, t37, t38, t39, t40, t41, t42, t43, t44, t45, t46, t47, t48, t49, t50, t51, t52, t53, t54, t55, t56, t57, t58, t59, t60, t61, t62, t63, t64, t65, t66, t67, t68, t69, t70, t71, t72, t73, t74, t75, t76, t77, t78, t79, t80, t81, t82, t83, t84, t85, t86, t87, t88, t89, t90, t91, t92, t93, t94, t95, t96, t97, t98, t99, t100, t101, t102, t103, t104, t105, t106, t107, t108, t109, t110, t111, t112, t113, t114, t115, t116, t117, t118, t119, t120, t121, t122, t123, t124, t125, t126, t127, t128, t129, t130, t131, t132, t133, t134, t135, t136, t137, t138, t139, t140, t141, t142, t143, t144, t145, t146, t147], ds⟩ w') :
    (Code.loop (bodyOf Tryz.f65 0)).wp Tryz.prog Q' ⟨#[t0, t1, t2, t3, t4, .slice A5 P.length c5, .slice (some ⟨p, 0, none⟩) P.length P.length, .int .i64 0, t8, t9, t10, t11, t12, t13, t14, t15, t16, t17, t18, t19, t20, t21, t22, t23, t24, t25, t26, t27, t28, t29, t30, t31, t32, t33, t34, t35, t36, t37, t38, t39, t40, t41, t42, t43, t44, t45, t46, t47, t48, t49, t50, t51, t52, t53, t54, t55, t56, t57, t58, t59, t60, t61, t62, t63, t64, t65, t66, t67, t68, t69, t70, t71, t72, t73, t74, t75, t76, t77, t78, t79, t80, t81, t82, t83, t84, t85, t86, t87, t88, t89, t90, t91, t92, t93, t94, t95, t96, t97, t98, t99, t100, t101, t102, t103, t104, t105, t106, t107, t108, t109, t110, t111, t112, t113, t114, t115, t116, t117, t118, t119, t120, t121, t122, t123, t124, t125, t126, t127, t128, t129, t130, t131, t132, t133, t134, t135, t136, t137, t138, t139, t140, t141, t142, t143, t144, t145, t146, t147], ds⟩ wr0 := by
  have H := Lib.hid h; clear h
  conv in (bodyOf _ _) => whnf
  dsimp only
  go_loopw [7] (fun s7 wr => ∃ (i : Nat) (F : List Int), i ≤ P.length ∧ s7 = .int .i64 i ∧ Hid (∀ j : Nat, j < i → F[j]? = some (j : Int)) ∧ LbM V p P.length F wr) (fun s7 _ => P.length - (intOf s7).toNat)
  case atStart => exact ⟨0, F, Nat.zero_le _, by go_num, Lib.hid (fun j hj => absurd hj (by omega)), M⟩
  case round =>
    clear M
    obtain ⟨i, F, hi, rfl, HF, M⟩ := hrel
    have hlen := M.len
    by_cases hlt : i < P.length
    · have i1 : ((i : Int) < (P.length : Int)) := by omega
      have q0 := M.cell (List.getElem?_eq_getElem (show i < F.length by omega))
      generalize F[i]'(by omega) = old at q0
      have qf := M.frozen i
      have ql := M.lt
      have M1 := M.put i (i : Int)
      have HX : Hid (∀ j : Nat, j < i + 1 → (F.set i (i : Int))[j]? = some (j : Int)) := Lib.hid (fun j hj => by
        by_cases e : i = j
        · subst e; rw [List.getElem?_set_self (by omega)]
        · rw [List.getElem?_set_ne e]; exact HF.out j (by omega))
      clear M hlen
      go_wp2
      exact ⟨⟨i + 1, _, by omega, by go_num, HX, M1⟩, by simp [intOf]; omega⟩
    · obtain rfl : i = P.length := by omega
      have hF : F = numsTo P.length := by
        apply List.ext_getElem?
        intro j
        by_cases hj : j < P.length
        · rw [HF.out j hj]; simp [numsTo, hj]
        · rw [List.getElem?_eq_none (by omega), List.getElem?_eq_none (by simp [numsTo]; omega)]
      subst hF
      clear hlen
      go_wp2
      exact H.out _ _ _ _ _ _ _ _ _ _ _ wr M
end Go.Proofs.YtidgeagpgllkeaaGreat
