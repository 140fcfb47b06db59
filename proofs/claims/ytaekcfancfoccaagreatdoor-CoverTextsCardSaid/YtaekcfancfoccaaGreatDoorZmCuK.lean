/- What a line of a face gives (plain law): cover.add and the reference's face. A region of a function, by its number (as RgW's end). cover.add: the test of a number's range. -/
import Derived.Test.YtaekcfancfoccaaGreatDoorProg
import Derived.BigQuiet
import Derived.Test.YtaekcfancfoccaaGreatDoorZmCuH
import Derived.Test.YtaekcfancfoccaaGreatDoorZmZkCvG
import Derived.Test.YtaekcfancfoccaaGreatDoorZmZkRgW
namespace Go.Proofs.YtaekcfancfoccaaGreatDoor
open Go.RowKit Go.Lib

def faceL : ByteArray := ⟨#[102, 110, 57, 57, 57, 57]⟩
def faceFs : List ByteArray := [⟨#[102, 97, 99, 101]⟩, ⟨#[110, 97, 109, 101]⟩, ⟨#[35]⟩, ⟨#[35]⟩, ⟨#[35]⟩, ⟨#[35]⟩]
theorem face_hash (ws : List (ByteArray × Int)) : hashK faceFs ws 6 = [ws.getD 2 w0, ws.getD 3 w0, ws.getD 4 w0, ws.getD 5 w0] := by simp [hashK, faceFs, lit_list]
theorem face_name (ws : List (ByteArray × Int)) (line : Int) : nameK faceFs line ws 6 = ((ws.getD 1 w0).1, line, (ws.getD 1 w0).2) := by simp [nameK, faceFs, lit_list]
theorem face_form (ws : List (ByteArray × Int)) (h0 : 0 < ws.length) : fieldP faceFs ws 0 = if ¬ (wordT ws 0).toList = [102, 97, 99, 101] then (0, 7) else formP faceL ws 1 := by
  have hl : 0 < faceFs.length := by decide
  have e0 : faceFs[0] = (⟨#[102, 97, 99, 101]⟩ : ByteArray) := rfl
  have eW : wordT ws 0 = ws[0].1 := wordT_eq h0
  have l1 : (⟨#[102, 97, 99, 101]⟩ : ByteArray).toList = [102, 97, 99, 101] := lit_list _
  by_cases h : (wordT ws 0).toList = [102, 97, 99, 101]
  · rw [if_neg (not_not_intro h), fieldP_go hl h0 (by
      unfold fieldE
      rw [e0, l1, if_neg (by decide), if_neg (by decide), ← eW, if_pos h.symm])]
    exact field_form (L := faceL) (fs := faceFs) rfl (fun k h h2 h1 => by
      match k, h, h1 with
      | 1, _, _ => exact means_n
      | 2, _, _ => exact means_9
      | 3, _, _ => exact means_9
      | 4, _, _ => exact means_9
      | 5, _, _ => exact means_9
      | k + 6, h, _ => exact absurd h (by simp [faceL, ByteArray.size])) ws 5 1 rfl (by omega)
  · rw [if_pos h, fieldP_bad hl h0 (n := 7) (by
      unfold fieldE
      rw [e0, l1, if_neg (by decide), if_neg (by decide), ← eW, if_neg (fun e => h e.symm)]) (by decide)]

def rgK (thick : Int) (ws : List (ByteArray × Int)) (k : Nat) : Bool := if k % 2 = 0 then wi (numT ws k) (-20000) 20000 else wi (numT ws k) 0 thick
def fcOf (ws : List (ByteArray × Int)) : Fc := ⟨numT ws 2, numT ws 3, numT ws 4, numT ws 5⟩
def faceP (j : Jo) (ws : List (ByteArray × Int)) : Option (ByteArray × Fc) × Nat × Int :=
  if ¬ (wordT ws 0).toList = [102, 97, 99, 101] then (none, 0, 7)
  else if (formP faceL ws 1).2 ≠ 0 then (none, formP faceL ws 1)
  else if j.fs.length = 12 then (none, 0, 8)
  else if j.fs.any (fun p => sameB p.1 (wordT ws 1)) = true then (none, 1, 5)
  else if rgK j.thick ws 2 = false then (none, 2, 2)
  else if rgK j.thick ws 3 = false then (none, 3, 2)
  else if rgK j.thick ws 4 = false then (none, 4, 2)
  else if rgK j.thick ws 5 = false then (none, 5, 2)
  else if numT ws 2 = numT ws 4 ∧ numT ws 3 = numT ws 5 then (none, 2, 11)
  else (some (wordT ws 1, fcOf ws), 0, 0)
def faceQ (j : Jo) (nm : ByteArray) (n2 n3 n4 n5 : Int) : Option (ByteArray × Fc) × Nat × Int :=
  if j.fs.length = 12 then (none, 0, 8)
  else if j.fs.any (fun p => sameB p.1 nm) = true then (none, 1, 5)
  else if wi n2 (-20000) 20000 = false then (none, 2, 2)
  else if wi n3 0 j.thick = false then (none, 3, 2)
  else if wi n4 (-20000) 20000 = false then (none, 4, 2)
  else if wi n5 0 j.thick = false then (none, 5, 2)
  else if n2 = n4 ∧ n3 = n5 then (none, 2, 11)
  else (some (nm, ⟨n2, n3, n4, n5⟩), 0, 0)
theorem faceP_form {j : Jo} {ws : List (ByteArray × Int)} {k : Nat} {n : Int} (h0 : 0 < ws.length) (h : fieldP faceFs ws 0 = (k, n)) (hn : n ≠ 0) : faceP j ws = (none, k, n) := by
  rw [face_form ws h0] at h
  unfold faceP
  split at h
  · rename_i hj
    rw [if_pos hj]
    cases h; rfl
  · rename_i hj
    rw [if_neg hj, if_pos (by rw [h]; exact hn), h]
theorem nameB_of_form {L : ByteArray} {ws : List (ByteArray × Int)} {k : Nat} (hk : k < L.size) (hw : k < ws.length) (hc : L[k].toNat = 110) (h : (formP L ws k).2 = 0) : nameB ws[k].1 = true := by
  by_cases he : formE L[k] ws[k].1 = 0
  · unfold formE at he
    rw [if_pos hc] at he
    split at he
    · rename_i hb; exact hb
    · simp at he
  · rw [formP_bad hk hw rfl he] at h
    exact absurd h he
theorem faceP_ok {j : Jo} {ws : List (ByteArray × Int)} {k : Nat} (h0 : 0 < ws.length) (h : fieldP faceFs ws 0 = (k, 0)) :
    ws.length = 6 ∧ nameB (wordT ws 1) = true ∧ faceP j ws = faceQ j (wordT ws 1) (numT ws 2) (numT ws 3) (numT ws 4) (numT ws 5) := by
  rw [face_form ws h0] at h
  split at h
  · cases h
  · rename_i hj
    have h1 : (formP faceL ws 1).2 = 0 := by rw [h]
    have h6 := formP_zero (L := faceL) 5 1 rfl h1 (by decide) h0
    have h6' : ws.length = 6 := h6
    refine ⟨h6', ?_, ?_⟩
    · rw [wordT_eq (show 1 < ws.length by omega)]
      exact nameB_of_form (L := faceL) (by decide) (by omega) rfl h1
    · unfold faceP
      rw [if_neg hj, if_neg (by rw [h1]; simp)]
      rfl
theorem faceE_q {j : Jo} {nm : ByteArray} {n2 n3 n4 n5 : Int} (hn : nameB nm = true) : faceE j.fs nm ⟨n2, n3, n4, n5⟩ j.thick =
    if j.fs.any (fun p => sameB p.1 nm) = true then 5
    else if wi n2 (-20000) 20000 = false ∨ wi n3 0 j.thick = false ∨ wi n4 (-20000) 20000 = false ∨ wi n5 0 j.thick = false then 2
    else if n2 = n4 ∧ n3 = n5 then 11 else 0 := by
  unfold faceE
  rw [hn]
  cases j.fs.any (fun p => sameB p.1 nm) <;> cases wi n2 (-20000) 20000 <;> cases wi n3 0 j.thick <;> cases wi n4 (-20000) 20000 <;> cases wi n5 0 j.thick <;> simp
end Go.Proofs.YtaekcfancfoccaaGreatDoor

namespace Go.Proofs.YtaekcfancfoccaaGreatDoor

def findR (n : Nat) : Code → Option Code
  | .region i ops d => if i = n then some (.region i ops d) else none
  | .seq a b => (findR n a).orElse fun _ => findR n b
  | .cond _ a b => (findR n a).orElse fun _ => findR n b
  | .block _ b => findR n b
  | .loop b => findR n b
  | .scope b => findR n b
  | .rangeFunc _ _ a b => (findR n a).orElse fun _ => findR n b
  | _ => none
def regOf (f : Func) (n : Nat) : Code := (f.body.bind (findR n)).getD .skip
def loopsC : Code → List Code
  | .seq a b => loopsC a ++ loopsC b
  | .cond _ a b => loopsC a ++ loopsC b
  | .block _ b => loopsC b
  | .loop b => b :: loopsC b
  | .scope b => loopsC b
  | _ => []
def bodyOf (f : Func) (k : Nat) : Code := ((f.body.map loopsC).getD [])[k]?.getD .skip
end Go.Proofs.YtaekcfancfoccaaGreatDoor

namespace Go.Proofs.YtaekcfancfoccaaGreatDoor
open Go.RowKit Go.Lib

set_option maxRecDepth 100000 in
set_option maxHeartbeats 8000000 in
theorem addReg16_0 {W : World} {jb g6 c6 : Nat} {n : Int} {b nb : Bool} (q : wi n (-20000) 20000 = b) (hb : nb = !b) (r : W.cell? ⟨g6, 0, none⟩ = some (.int .i64 n)) (l6 : g6 < W.heap.size) {t1 t2 t3 t4 t5 t6 t8 t9 t10 t12 t13 t14 t15 t16 t17 t18 t19 t20 t21 t22 t23 t24 t25 t26 t27 t28 t29 t30 t31 t32 t33 t34 t35 t36 t37 t38 t39 t40 t41 t42 t43 t44 t45 t46 t47 t48 t49 t50 t51 t52 t53 t54 t55 t56 t57 t58 t59 t60 t61 t62 t63 t64 t65 t66 t67 t68 t69 t70 t71 t72 t73 t74 t75 t76 t77 t78 t79 t80 t81 t82 t83 t84 t85 t86 t87 t88 t89 t90 t91 t92 t93 t94 t95 t96 t97 t98 t99 t100 t101 t102 t103 t104 t105 t106 t107 t108 t109 t110 t111 t112 t113 t114 t115 t116 t117 t118 t119 t120 t121 t122 t123 t124 t125 t126 t127 : Value} {ds : List Deferred} (Q : Exit → Act → World → Prop)
    (h : ∀ (t82 t83 t84 t85 t86 t87 t88 t89 t90 t91 t92 t93 t94 t95 t96 t97 t98 t99 t100 t101 t102 t103 t104 t105 t106 t107 t108 : Value) (w' : World), Gr W w' → Q .normal ⟨#[.pointer (some ⟨jb, 0, none⟩), t1, t2, t3, t4, t5, t6, .slice (some ⟨g6, 0, none⟩) 4 c6, t8, t9, t10, .int .i64 0, t12, t13, t14, t15, t16, t17, t18, t19, t20, t21, t22, t23, t24, t25, t26, t27, t28, t29, t30, t31, t32, t33, t34, t35, t36, t37, t38, t39, t40, t41, t42, t43, t44, t45, t46, t47, t48, t49, t50, t51, t52, t53, t54, t55, t56, t57, t58, t59, t60, t61, t62, t63, t64, t65, t66, t67, t68, t69, t70, t71, t72, t73, t74, t75, t76, t77, t78, t79, t80, t81, t82, t83, t84, t85, t86, t87, t88, t89, t90, t91, t92, t93, t94, t95, t96, t97, t98, t99, t100, t101, t102, t103, t104, t105, t106, t107, t108, .bool nb, t110, t111, t112, t113, t114, t115, t116, t117, t118, t119, t120, t121, t122, t123, t124, t125, t126, t127], ds⟩ w') :
    (regOf Tryz.f42 16).wp Tryz.prog Q ⟨#[.pointer (some ⟨jb, 0, none⟩), t1, t2, t3, t4, t5, t6, .slice (some ⟨g6, 0, none⟩) 4 c6, t8, t9, t10, .int .i64 0, t12, t13, t14, t15, t16, t17, t18, t19, t20, t21, t22, t23, t24, t25, t26, t27, t28, t29, t30, t31, t32, t33, t34, t35, t36, t37, t38, t39, t40, t41, t42, t43, t44, t45, t46, t47, t48, t49, t50, t51, t52, t53, t54, t55, t56, t57, t58, t59, t60, t61, t62, t63, t64, t65, t66, t67, t68, t69, t70, t71, t72, t73, t74, t75, t76, t77, t78, t79, t80, t81, t82, t83, t84, t85, t86, t87, t88, t89, t90, t91, t92, t93, t94, t95, t96, t97, t98, t99, t100, t101, t102, t103, t104, t105, t106, t107, t108, t109, t110, t111, t112, t113, t114, t115, t116, t117, t118, t119, t120, t121, t122, t123, t124, t125, t126, t127], ds⟩ W := by
  subst hb
  have H := Lib.hid h; clear h
  have HCALL : Hid (∀ w, Calls Tryz.prog 57 #[.int .i64 n, .int .i64 20000] w fun e w' => e = .returned (.bool (wi n (-20000) 20000)) ∧ w' = w) := Lib.hid (fun w => (small_any n 20000 (by omega) (by omega) w).mono fun e w' ⟨h1, h2⟩ => ⟨h1, h2.symm⟩)
  have HX := HCALL.out
  rw [q] at HX
  have HC2 := Lib.hid HX
  clear HX HCALL
  conv in (regOf _ _) => whnf
  cases b with
  | false =>
    refine wp_region_b 28 (by kernel_rfl) (by kernel_rfl) ?_; simp only [List.take, List.drop]
    repeat (first
      | (apply StepsD.run
         · go_simp
           done
         · intro w' hS K hK
           have hc := (bcell hS).1; have hf := (bcell hS).2; have hz := hS.size; (try simp at hz); go_simp; (try go_bits)
           first
             | exact hK _ hS
             | (refine (HC2.out _).mono ?_; rintro e wq ⟨rfl, rfl⟩; exact hK _ hS)
             | exact hK _ (by repeat first | (with_reducible first | exact Below.refl _ _ | assumption) | ((with_reducible first | refine Below.setCell ?_ ?_ _ | refine Below.alloc ?_ ?_ _); rotate_left; · first | exact Nat.le_refl _ | (simp; done) | (simp; omega) | omega) | (with_reducible first | apply Below.drew | apply below_drewN') | refine Below.trans ?_ (Below.mono (by assumption) (by first | exact Nat.le_refl _ | (simp; done) | (simp; omega) | omega)) | exact Below.refl _ _ | assumption)
         · simp [Act.put]
           done)
      | (apply StepsD.pass
         · first | (go_simp; done) | rfl
         · simp only [Act.put, List.setIfInBounds_toArray, List.set_cons_succ, List.set_cons_zero]
           rfl))
    refine StepsD.done ?_
    intro w' hS
    exact H.out _ _ _ _ _ _ _ _ _ _ _ _ _ _ _ _ _ _ _ _ _ _ _ _ _ _ _ _ hS
  | true =>
    refine wp_region_b 28 (by kernel_rfl) (by kernel_rfl) ?_; simp only [List.take, List.drop]
    repeat (first
      | (apply StepsD.run
         · go_simp
           done
         · intro w' hS K hK
           have hc := (bcell hS).1; have hf := (bcell hS).2; have hz := hS.size; (try simp at hz); go_simp; (try go_bits)
           first
             | exact hK _ hS
             | (refine (HC2.out _).mono ?_; rintro e wq ⟨rfl, rfl⟩; exact hK _ hS)
             | exact hK _ (by repeat first | (with_reducible first | exact Below.refl _ _ | assumption) | ((with_reducible first | refine Below.setCell ?_ ?_ _ | refine Below.alloc ?_ ?_ _); rotate_left; · first | exact Nat.le_refl _ | (simp; done) | (simp; omega) | omega) | (with_reducible first | apply Below.drew | apply below_drewN') | refine Below.trans ?_ (Below.mono (by assumption) (by first | exact Nat.le_refl _ | (simp; done) | (simp; omega) | omega)) | exact Below.refl _ _ | assumption)
         · simp [Act.put]
           done)
      | (apply StepsD.pass
         · first | (go_simp; done) | rfl
         · simp only [Act.put, List.setIfInBounds_toArray, List.set_cons_succ, List.set_cons_zero]
           rfl))
    refine StepsD.done ?_
    intro w' hS
    exact H.out _ _ _ _ _ _ _ _ _ _ _ _ _ _ _ _ _ _ _ _ _ _ _ _ _ _ _ _ hS

set_option maxRecDepth 100000 in
set_option maxHeartbeats 8000000 in
theorem addReg16_1 {W : World} {jb g6 c6 : Nat} {n th : Int} {b nb : Bool} (q : wi n 0 th = b) (hb : nb = !b) (r : W.cell? ⟨g6, 1, none⟩ = some (.int .i64 n)) (l6 : g6 < W.heap.size) (j1 : W.cell? ⟨jb, 1, none⟩ = some (.int .i64 th)) (lj : jb < W.heap.size) {t1 t2 t3 t4 t5 t6 t8 t9 t10 t12 t13 t14 t15 t16 t17 t18 t19 t20 t21 t22 t23 t24 t25 t26 t27 t28 t29 t30 t31 t32 t33 t34 t35 t36 t37 t38 t39 t40 t41 t42 t43 t44 t45 t46 t47 t48 t49 t50 t51 t52 t53 t54 t55 t56 t57 t58 t59 t60 t61 t62 t63 t64 t65 t66 t67 t68 t69 t70 t71 t72 t73 t74 t75 t76 t77 t78 t79 t80 t81 t82 t83 t84 t85 t86 t87 t88 t89 t90 t91 t92 t93 t94 t95 t96 t97 t98 t99 t100 t101 t102 t103 t104 t105 t106 t107 t108 t109 t110 t111 t112 t113 t114 t115 t116 t117 t118 t119 t120 t121 t122 t123 t124 t125 t126 t127 : Value} {ds : List Deferred} (Q : Exit → Act → World → Prop)
    (h : ∀ (t82 t83 t84 t85 t86 t87 t88 t89 t90 t91 t92 t93 t94 t95 t96 t97 t98 t99 t100 t101 t102 t103 t104 t105 t106 t107 t108 : Value) (w' : World), Gr W w' → Q .normal ⟨#[.pointer (some ⟨jb, 0, none⟩), t1, t2, t3, t4, t5, t6, .slice (some ⟨g6, 0, none⟩) 4 c6, t8, t9, t10, .int .i64 1, t12, t13, t14, t15, t16, t17, t18, t19, t20, t21, t22, t23, t24, t25, t26, t27, t28, t29, t30, t31, t32, t33, t34, t35, t36, t37, t38, t39, t40, t41, t42, t43, t44, t45, t46, t47, t48, t49, t50, t51, t52, t53, t54, t55, t56, t57, t58, t59, t60, t61, t62, t63, t64, t65, t66, t67, t68, t69, t70, t71, t72, t73, t74, t75, t76, t77, t78, t79, t80, t81, t82, t83, t84, t85, t86, t87, t88, t89, t90, t91, t92, t93, t94, t95, t96, t97, t98, t99, t100, t101, t102, t103, t104, t105, t106, t107, t108, .bool nb, t110, t111, t112, t113, t114, t115, t116, t117, t118, t119, t120, t121, t122, t123, t124, t125, t126, t127], ds⟩ w') :
    (regOf Tryz.f42 16).wp Tryz.prog Q ⟨#[.pointer (some ⟨jb, 0, none⟩), t1, t2, t3, t4, t5, t6, .slice (some ⟨g6, 0, none⟩) 4 c6, t8, t9, t10, .int .i64 1, t12, t13, t14, t15, t16, t17, t18, t19, t20, t21, t22, t23, t24, t25, t26, t27, t28, t29, t30, t31, t32, t33, t34, t35, t36, t37, t38, t39, t40, t41, t42, t43, t44, t45, t46, t47, t48, t49, t50, t51, t52, t53, t54, t55, t56, t57, t58, t59, t60, t61, t62, t63, t64, t65, t66, t67, t68, t69, t70, t71, t72, t73, t74, t75, t76, t77, t78, t79, t80, t81, t82, t83, t84, t85, t86, t87, t88, t89, t90, t91, t92, t93, t94, t95, t96, t97, t98, t99, t100, t101, t102, t103, t104, t105, t106, t107, t108, t109, t110, t111, t112, t113, t114, t115, t116, t117, t118, t119, t120, t121, t122, t123, t124, t125, t126, t127], ds⟩ W := by
  subst hb
  have H := Lib.hid h; clear h
  have HCALL : Hid (∀ w, Calls Tryz.prog 58 #[.int .i64 n, .int .i64 0, .int .i64 th] w fun e w' => e = .returned (.bool (wi n 0 th)) ∧ w' = w) := Lib.hid (fun w => (within_any n 0 th w).mono fun e w' ⟨h1, h2⟩ => ⟨h1, h2.symm⟩)
  have HX := HCALL.out
  rw [q] at HX
  have HC2 := Lib.hid HX
  clear HX HCALL
  conv in (regOf _ _) => whnf
  cases b with
  | false =>
    refine wp_region_b 28 (by kernel_rfl) (by kernel_rfl) ?_; simp only [List.take, List.drop]
    repeat (first
      | (apply StepsD.run
         · go_simp
           done
         · intro w' hS K hK
           have hc := (bcell hS).1; have hf := (bcell hS).2; have hz := hS.size; (try simp at hz); go_simp; (try go_bits)
           first
             | exact hK _ hS
             | (refine (HC2.out _).mono ?_; rintro e wq ⟨rfl, rfl⟩; exact hK _ hS)
             | exact hK _ (by repeat first | (with_reducible first | exact Below.refl _ _ | assumption) | ((with_reducible first | refine Below.setCell ?_ ?_ _ | refine Below.alloc ?_ ?_ _); rotate_left; · first | exact Nat.le_refl _ | (simp; done) | (simp; omega) | omega) | (with_reducible first | apply Below.drew | apply below_drewN') | refine Below.trans ?_ (Below.mono (by assumption) (by first | exact Nat.le_refl _ | (simp; done) | (simp; omega) | omega)) | exact Below.refl _ _ | assumption)
         · simp [Act.put]
           done)
      | (apply StepsD.pass
         · first | (go_simp; done) | rfl
         · simp only [Act.put, List.setIfInBounds_toArray, List.set_cons_succ, List.set_cons_zero]
           rfl))
    refine StepsD.done ?_
    intro w' hS
    exact H.out _ _ _ _ _ _ _ _ _ _ _ _ _ _ _ _ _ _ _ _ _ _ _ _ _ _ _ _ hS
  | true =>
    refine wp_region_b 28 (by kernel_rfl) (by kernel_rfl) ?_; simp only [List.take, List.drop]
    repeat (first
      | (apply StepsD.run
         · go_simp
           done
         · intro w' hS K hK
           have hc := (bcell hS).1; have hf := (bcell hS).2; have hz := hS.size; (try simp at hz); go_simp; (try go_bits)
           first
             | exact hK _ hS
             | (refine (HC2.out _).mono ?_; rintro e wq ⟨rfl, rfl⟩; exact hK _ hS)
             | exact hK _ (by repeat first | (with_reducible first | exact Below.refl _ _ | assumption) | ((with_reducible first | refine Below.setCell ?_ ?_ _ | refine Below.alloc ?_ ?_ _); rotate_left; · first | exact Nat.le_refl _ | (simp; done) | (simp; omega) | omega) | (with_reducible first | apply Below.drew | apply below_drewN') | refine Below.trans ?_ (Below.mono (by assumption) (by first | exact Nat.le_refl _ | (simp; done) | (simp; omega) | omega)) | exact Below.refl _ _ | assumption)
         · simp [Act.put]
           done)
      | (apply StepsD.pass
         · first | (go_simp; done) | rfl
         · simp only [Act.put, List.setIfInBounds_toArray, List.set_cons_succ, List.set_cons_zero]
           rfl))
    refine StepsD.done ?_
    intro w' hS
    exact H.out _ _ _ _ _ _ _ _ _ _ _ _ _ _ _ _ _ _ _ _ _ _ _ _ _ _ _ _ hS

set_option maxRecDepth 100000 in
set_option maxHeartbeats 8000000 in
theorem addReg16_2 {W : World} {jb g6 c6 : Nat} {n : Int} {b nb : Bool} (q : wi n (-20000) 20000 = b) (hb : nb = !b) (r : W.cell? ⟨g6, 2, none⟩ = some (.int .i64 n)) (l6 : g6 < W.heap.size) {t1 t2 t3 t4 t5 t6 t8 t9 t10 t12 t13 t14 t15 t16 t17 t18 t19 t20 t21 t22 t23 t24 t25 t26 t27 t28 t29 t30 t31 t32 t33 t34 t35 t36 t37 t38 t39 t40 t41 t42 t43 t44 t45 t46 t47 t48 t49 t50 t51 t52 t53 t54 t55 t56 t57 t58 t59 t60 t61 t62 t63 t64 t65 t66 t67 t68 t69 t70 t71 t72 t73 t74 t75 t76 t77 t78 t79 t80 t81 t82 t83 t84 t85 t86 t87 t88 t89 t90 t91 t92 t93 t94 t95 t96 t97 t98 t99 t100 t101 t102 t103 t104 t105 t106 t107 t108 t109 t110 t111 t112 t113 t114 t115 t116 t117 t118 t119 t120 t121 t122 t123 t124 t125 t126 t127 : Value} {ds : List Deferred} (Q : Exit → Act → World → Prop)
    (h : ∀ (t82 t83 t84 t85 t86 t87 t88 t89 t90 t91 t92 t93 t94 t95 t96 t97 t98 t99 t100 t101 t102 t103 t104 t105 t106 t107 t108 : Value) (w' : World), Gr W w' → Q .normal ⟨#[.pointer (some ⟨jb, 0, none⟩), t1, t2, t3, t4, t5, t6, .slice (some ⟨g6, 0, none⟩) 4 c6, t8, t9, t10, .int .i64 2, t12, t13, t14, t15, t16, t17, t18, t19, t20, t21, t22, t23, t24, t25, t26, t27, t28, t29, t30, t31, t32, t33, t34, t35, t36, t37, t38, t39, t40, t41, t42, t43, t44, t45, t46, t47, t48, t49, t50, t51, t52, t53, t54, t55, t56, t57, t58, t59, t60, t61, t62, t63, t64, t65, t66, t67, t68, t69, t70, t71, t72, t73, t74, t75, t76, t77, t78, t79, t80, t81, t82, t83, t84, t85, t86, t87, t88, t89, t90, t91, t92, t93, t94, t95, t96, t97, t98, t99, t100, t101, t102, t103, t104, t105, t106, t107, t108, .bool nb, t110, t111, t112, t113, t114, t115, t116, t117, t118, t119, t120, t121, t122, t123, t124, t125, t126, t127], ds⟩ w') :
    (regOf Tryz.f42 16).wp Tryz.prog Q ⟨#[.pointer (some ⟨jb, 0, none⟩), t1, t2, t3, t4, t5, t6, .slice (some ⟨g6, 0, none⟩) 4 c6, t8, t9, t10, .int .i64 2, t12, t13, t14, t15, t16, t17, t18, t19, t20, t21, t22, t23, t24, t25, t26, t27, t28, t29, t30, t31, t32, t33, t34, t35, t36, t37, t38, t39, t40, t41, t42, t43, t44, t45, t46, t47, t48, t49, t50, t51, t52, t53, t54, t55, t56, t57, t58, t59, t60, t61, t62, t63, t64, t65, t66, t67, t68, t69, t70, t71, t72, t73, t74, t75, t76, t77, t78, t79, t80, t81, t82, t83, t84, t85, t86, t87, t88, t89, t90, t91, t92, t93, t94, t95, t96, t97, t98, t99, t100, t101, t102, t103, t104, t105, t106, t107, t108, t109, t110, t111, t112, t113, t114, t115, t116, t117, t118, t119, t120, t121, t122, t123, t124, t125, t126, t127], ds⟩ W := by
  subst hb
  have H := Lib.hid h; clear h
  have HCALL : Hid (∀ w, Calls Tryz.prog 57 #[.int .i64 n, .int .i64 20000] w fun e w' => e = .returned (.bool (wi n (-20000) 20000)) ∧ w' = w) := Lib.hid (fun w => (small_any n 20000 (by omega) (by omega) w).mono fun e w' ⟨h1, h2⟩ => ⟨h1, h2.symm⟩)
  have HX := HCALL.out
  rw [q] at HX
  have HC2 := Lib.hid HX
  clear HX HCALL
  conv in (regOf _ _) => whnf
  cases b with
  | false =>
    refine wp_region_b 28 (by kernel_rfl) (by kernel_rfl) ?_; simp only [List.take, List.drop]
    repeat (first
      | (apply StepsD.run
         · go_simp
           done
         · intro w' hS K hK
           have hc := (bcell hS).1; have hf := (bcell hS).2; have hz := hS.size; (try simp at hz); go_simp; (try go_bits)
           first
             | exact hK _ hS
             | (refine (HC2.out _).mono ?_; rintro e wq ⟨rfl, rfl⟩; exact hK _ hS)
             | exact hK _ (by repeat first | (with_reducible first | exact Below.refl _ _ | assumption) | ((with_reducible first | refine Below.setCell ?_ ?_ _ | refine Below.alloc ?_ ?_ _); rotate_left; · first | exact Nat.le_refl _ | (simp; done) | (simp; omega) | omega) | (with_reducible first | apply Below.drew | apply below_drewN') | refine Below.trans ?_ (Below.mono (by assumption) (by first | exact Nat.le_refl _ | (simp; done) | (simp; omega) | omega)) | exact Below.refl _ _ | assumption)
         · simp [Act.put]
           done)
      | (apply StepsD.pass
         · first | (go_simp; done) | rfl
         · simp only [Act.put, List.setIfInBounds_toArray, List.set_cons_succ, List.set_cons_zero]
           rfl))
    refine StepsD.done ?_
    intro w' hS
    exact H.out _ _ _ _ _ _ _ _ _ _ _ _ _ _ _ _ _ _ _ _ _ _ _ _ _ _ _ _ hS
  | true =>
    refine wp_region_b 28 (by kernel_rfl) (by kernel_rfl) ?_; simp only [List.take, List.drop]
    repeat (first
      | (apply StepsD.run
         · go_simp
           done
         · intro w' hS K hK
           have hc := (bcell hS).1; have hf := (bcell hS).2; have hz := hS.size; (try simp at hz); go_simp; (try go_bits)
           first
             | exact hK _ hS
             | (refine (HC2.out _).mono ?_; rintro e wq ⟨rfl, rfl⟩; exact hK _ hS)
             | exact hK _ (by repeat first | (with_reducible first | exact Below.refl _ _ | assumption) | ((with_reducible first | refine Below.setCell ?_ ?_ _ | refine Below.alloc ?_ ?_ _); rotate_left; · first | exact Nat.le_refl _ | (simp; done) | (simp; omega) | omega) | (with_reducible first | apply Below.drew | apply below_drewN') | refine Below.trans ?_ (Below.mono (by assumption) (by first | exact Nat.le_refl _ | (simp; done) | (simp; omega) | omega)) | exact Below.refl _ _ | assumption)
         · simp [Act.put]
           done)
      | (apply StepsD.pass
         · first | (go_simp; done) | rfl
         · simp only [Act.put, List.setIfInBounds_toArray, List.set_cons_succ, List.set_cons_zero]
           rfl))
    refine StepsD.done ?_
    intro w' hS
    exact H.out _ _ _ _ _ _ _ _ _ _ _ _ _ _ _ _ _ _ _ _ _ _ _ _ _ _ _ _ hS

set_option maxRecDepth 100000 in
set_option maxHeartbeats 8000000 in
theorem addReg16_3 {W : World} {jb g6 c6 : Nat} {n th : Int} {b nb : Bool} (q : wi n 0 th = b) (hb : nb = !b) (r : W.cell? ⟨g6, 3, none⟩ = some (.int .i64 n)) (l6 : g6 < W.heap.size) (j1 : W.cell? ⟨jb, 1, none⟩ = some (.int .i64 th)) (lj : jb < W.heap.size) {t1 t2 t3 t4 t5 t6 t8 t9 t10 t12 t13 t14 t15 t16 t17 t18 t19 t20 t21 t22 t23 t24 t25 t26 t27 t28 t29 t30 t31 t32 t33 t34 t35 t36 t37 t38 t39 t40 t41 t42 t43 t44 t45 t46 t47 t48 t49 t50 t51 t52 t53 t54 t55 t56 t57 t58 t59 t60 t61 t62 t63 t64 t65 t66 t67 t68 t69 t70 t71 t72 t73 t74 t75 t76 t77 t78 t79 t80 t81 t82 t83 t84 t85 t86 t87 t88 t89 t90 t91 t92 t93 t94 t95 t96 t97 t98 t99 t100 t101 t102 t103 t104 t105 t106 t107 t108 t109 t110 t111 t112 t113 t114 t115 t116 t117 t118 t119 t120 t121 t122 t123 t124 t125 t126 t127 : Value} {ds : List Deferred} (Q : Exit → Act → World → Prop)
    (h : ∀ (t82 t83 t84 t85 t86 t87 t88 t89 t90 t91 t92 t93 t94 t95 t96 t97 t98 t99 t100 t101 t102 t103 t104 t105 t106 t107 t108 : Value) (w' : World), Gr W w' → Q .normal ⟨#[.pointer (some ⟨jb, 0, none⟩), t1, t2, t3, t4, t5, t6, .slice (some ⟨g6, 0, none⟩) 4 c6, t8, t9, t10, .int .i64 3, t12, t13, t14, t15, t16, t17, t18, t19, t20, t21, t22, t23, t24, t25, t26, t27, t28, t29, t30, t31, t32, t33, t34, t35, t36, t37, t38, t39, t40, t41, t42, t43, t44, t45, t46, t47, t48, t49, t50, t51, t52, t53, t54, t55, t56, t57, t58, t59, t60, t61, t62, t63, t64, t65, t66, t67, t68, t69, t70, t71, t72, t73, t74, t75, t76, t77, t78, t79, t80, t81, t82, t83, t84, t85, t86, t87, t88, t89, t90, t91, t92, t93, t94, t95, t96, t97, t98, t99, t100, t101, t102, t103, t104, t105, t106, t107, t108, .bool nb, t110, t111, t112, t113, t114, t115, t116, t117, t118, t119, t120, t121, t122, t123, t124, t125, t126, t127], ds⟩ w') :
    (regOf Tryz.f42 16).wp Tryz.prog Q ⟨#[.pointer (some ⟨jb, 0, none⟩), t1, t2, t3, t4, t5, t6, .slice (some ⟨g6, 0, none⟩) 4 c6, t8, t9, t10, .int .i64 3, t12, t13, t14, t15, t16, t17, t18, t19, t20, t21, t22, t23, t24, t25, t26, t27, t28, t29, t30, t31, t32, t33, t34, t35, t36, t37, t38, t39, t40, t41, t42, t43, t44, t45, t46, t47, t48, t49, t50, t51, t52, t53, t54, t55, t56, t57, t58, t59, t60, t61, t62, t63, t64, t65, t66, t67, t68, t69, t70, t71, t72, t73, t74, t75, t76, t77, t78, t79, t80, t81, t82, t83, t84, t85, t86, t87, t88, t89, t90, t91, t92, t93, t94, t95, t96, t97, t98, t99, t100, t101, t102, t103, t104, t105, t106, t107, t108, t109, t110, t111, t112, t113, t114, t115, t116, t117, t118, t119, t120, t121, t122, t123, t124, t125, t126, t127], ds⟩ W := by
  subst hb
  have H := Lib.hid h; clear h
  have HCALL : Hid (∀ w, Calls Tryz.prog 58 #[.int .i64 n, .int .i64 0, .int .i64 th] w fun e w' => e = .returned (.bool (wi n 0 th)) ∧ w' = w) := Lib.hid (fun w => (within_any n 0 th w).mono fun e w' ⟨h1, h2⟩ => ⟨h1, h2.symm⟩)
  have HX := HCALL.out
  rw [q] at HX
  have HC2 := Lib.hid HX
  clear HX HCALL
  conv in (regOf _ _) => whnf
  cases b with
  | false =>
    refine wp_region_b 28 (by kernel_rfl) (by kernel_rfl) ?_; simp only [List.take, List.drop]
    repeat (first
      | (apply StepsD.run
         · go_simp
           done
         · intro w' hS K hK
           have hc := (bcell hS).1; have hf := (bcell hS).2; have hz := hS.size; (try simp at hz); go_simp; (try go_bits)
           first
             | exact hK _ hS
             | (refine (HC2.out _).mono ?_; rintro e wq ⟨rfl, rfl⟩; exact hK _ hS)
             | exact hK _ (by repeat first | (with_reducible first | exact Below.refl _ _ | assumption) | ((with_reducible first | refine Below.setCell ?_ ?_ _ | refine Below.alloc ?_ ?_ _); rotate_left; · first | exact Nat.le_refl _ | (simp; done) | (simp; omega) | omega) | (with_reducible first | apply Below.drew | apply below_drewN') | refine Below.trans ?_ (Below.mono (by assumption) (by first | exact Nat.le_refl _ | (simp; done) | (simp; omega) | omega)) | exact Below.refl _ _ | assumption)
         · simp [Act.put]
           done)
      | (apply StepsD.pass
         · first | (go_simp; done) | rfl
         · simp only [Act.put, List.setIfInBounds_toArray, List.set_cons_succ, List.set_cons_zero]
           rfl))
    refine StepsD.done ?_
    intro w' hS
    exact H.out _ _ _ _ _ _ _ _ _ _ _ _ _ _ _ _ _ _ _ _ _ _ _ _ _ _ _ _ hS
  | true =>
    refine wp_region_b 28 (by kernel_rfl) (by kernel_rfl) ?_; simp only [List.take, List.drop]
    repeat (first
      | (apply StepsD.run
         · go_simp
           done
         · intro w' hS K hK
           have hc := (bcell hS).1; have hf := (bcell hS).2; have hz := hS.size; (try simp at hz); go_simp; (try go_bits)
           first
             | exact hK _ hS
             | (refine (HC2.out _).mono ?_; rintro e wq ⟨rfl, rfl⟩; exact hK _ hS)
             | exact hK _ (by repeat first | (with_reducible first | exact Below.refl _ _ | assumption) | ((with_reducible first | refine Below.setCell ?_ ?_ _ | refine Below.alloc ?_ ?_ _); rotate_left; · first | exact Nat.le_refl _ | (simp; done) | (simp; omega) | omega) | (with_reducible first | apply Below.drew | apply below_drewN') | refine Below.trans ?_ (Below.mono (by assumption) (by first | exact Nat.le_refl _ | (simp; done) | (simp; omega) | omega)) | exact Below.refl _ _ | assumption)
         · simp [Act.put]
           done)
      | (apply StepsD.pass
         · first | (go_simp; done) | rfl
         · simp only [Act.put, List.setIfInBounds_toArray, List.set_cons_succ, List.set_cons_zero]
           rfl))
    refine StepsD.done ?_
    intro w' hS
    exact H.out _ _ _ _ _ _ _ _ _ _ _ _ _ _ _ _ _ _ _ _ _ _ _ _ _ _ _ _ hS
end Go.Proofs.YtaekcfancfoccaaGreatDoor
