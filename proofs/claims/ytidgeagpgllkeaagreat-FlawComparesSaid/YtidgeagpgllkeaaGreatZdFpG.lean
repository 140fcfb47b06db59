/- Contract: flaw.CheckCover, the numbers of one side. Contracts: whether a list has a number; the iterator of the marks that are alike, as a value. -/
import Derived.Test.YtidgeagpgllkeaaGreatZdFpE
import Derived.Test.YtidgeagpgllkeaaGreatZdFaX
namespace Go.Proofs.YtidgeagpgllkeaaGreat
open Go.RowKit

theorem numb_at {n : Nat} {L : List Int} {k : Nat} {x : Int} (h : L[k]? = some x) : numbB n L k = if wi x 0 ((n : Int) - 1) = false then 6 else if 0 < k ∧ x ≤ L[k - 1]?.getD 0 then 9 else 0 := by unfold numbB; rw [h]; rfl
theorem rowInt {w : World} {B : Nat} {A : Option Addr} {L : List Int} (h : Row w B 1 A L.length (intsC L)) {k : Nat} (hk : k < L.length) : ∃ g o, A = some ⟨g, o, none⟩ ∧ g < B ∧ ∀ j x, L[j]? = some x → w.cell? ⟨g, o + j, none⟩ = some (.int .i64 x) := by
  obtain ⟨g, o, hA, hg, hc⟩ := h.2 (by omega)
  exact ⟨g, o, hA, hg, fun j x hj => hc j _ (by simp [intsC, hj])⟩

set_option maxRecDepth 100000 in
set_option maxHeartbeats 8000000 in
theorem ccLoop2 {V wr0 : World} {z3 z6 z7 n s B cs cL : Nat} {As AL : Option Addr} {L : List Int} (h3 : V.cell? ⟨z3, s, none⟩ = some (.slice As n cs)) (hs : s < 2) (b6 : Blk V z6 3 #[.int .i64 0]) (b7 : Blk V z7 32 #[.int .i64 0]) (hL : Row V B 1 AL L.length (intsC L)) (hB : B ≤ V.heap.size) (hLl : L.length ≤ 1000) (hn : n ≤ 1000) (hG : Gr V wr0) {t0 t1 t2 t4 t5 t8 t9 t12 t13 t14 t15 t16 t17 t18 t19 t20 t21 t22 t23 t24 t25 t26 t27 t28 t29 t30 t31 t32 t33 t37 t38 t39 t40 t41 t42 t43 t44 t45 t46 t47 t48 t49 t50 t51 t52 t53 t54 t55 t56 t57 t58 t59 t60 t61 t62 t63 t64 t65 t66 t67 t68 t69 t70 t71 t72 t73 t74 t75 t76 t77 t78 t79 t80 t81 t82 t83 t84 t85 t86 t87 t88 t89 t90 t91 t92 t93 : Value} {ds : List Deferred} (Q' : Exit → Act → World → Prop)
    (hr : ∀ (t12 t13 t36 t37 t38 t39 t40 t41 t42 t43 t44 t45 t46 t47 t48 t49 t50 t51 t52 t53 t54 t55 t56 t57 t58 t59 t60 t61 t62 : Value) (w1 : World), numbE n L ≠ 0 → Gr V w1 → Q' .ret ⟨#[t0, t1, t2, .pointer (some ⟨z3, 0, none⟩), t4, t5, .pointer (some ⟨z6, 0, none⟩), .pointer (some ⟨z7, 0, none⟩), t8, t9, .int .i64 s, .slice AL L.length cL, t12, t13, t14, t15, t16, t17, t18, t19, t20, t21, t22, t23, t24, t25, t26, t27, t28, t29, t30, t31, t32, t33, .slice AL L.length cL, .int .i64 L.length, t36, t37, t38, t39, t40, t41, t42, t43, t44, t45, t46, t47, t48, t49, t50, t51, t52, t53, t54, t55, t56, t57, t58, t59, t60, t61, t62, t63, t64, t65, t66, t67, t68, t69, t70, t71, t72, t73, t74, t75, t76, t77, t78, t79, t80, t81, t82, t83, t84, t85, t86, t87, t88, t89, t90, t91, t92, t93], ds⟩ ((w1.setCell ⟨z6, 0, none⟩ (.int .i64 0)).setCell ⟨z7, 0, none⟩ (.int .i64 (numbE n L))))
    (h : ∀ (t12 t13 t36 t37 t38 t39 t40 t41 t42 t43 t44 t45 t46 t47 t48 t49 t50 t51 t52 t53 t54 t55 t56 t57 t58 t59 t60 t61 t62 : Value) (w1 : World), numbE n L = 0 → Gr V w1 → Q' (.exit 2) ⟨#[t0, t1, t2, .pointer (some ⟨z3, 0, none⟩), t4, t5, .pointer (some ⟨z6, 0, none⟩), .pointer (some ⟨z7, 0, none⟩), t8, t9, .int .i64 s, .slice AL L.length cL, t12, t13, t14, t15, t16, t17, t18, t19, t20, t21, t22, t23, t24, t25, t26, t27, t28, t29, t30, t31, t32, t33, .slice AL L.length cL, .int .i64 L.length, t36, t37, t38, t39, t40, t41, t42, t43, t44, t45, t46, t47, t48, t49, t50, t51, t52, t53, t54, t55, t56, t57, t58, t59, t60, t61, t62, t63, t64, t65, t66, t67, t68, t69, t70, t71, t72, t73, t74, t75, t76, t77, t78, t79, t80, t81, t82, t83, t84, t85, t86, t87, t88, t89, t90, t91, t92, t93], ds⟩ w1) :
    (Code.loop (bodyOf Tryz.f75 1)).wp Tryz.prog Q' ⟨#[t0, t1, t2, .pointer (some ⟨z3, 0, none⟩), t4, t5, .pointer (some ⟨z6, 0, none⟩), .pointer (some ⟨z7, 0, none⟩), t8, t9, .int .i64 s, .slice AL L.length cL, t12, t13, t14, t15, t16, t17, t18, t19, t20, t21, t22, t23, t24, t25, t26, t27, t28, t29, t30, t31, t32, t33, .slice AL L.length cL, .int .i64 L.length, .int .i64 0, t37, t38, t39, t40, t41, t42, t43, t44, t45, t46, t47, t48, t49, t50, t51, t52, t53, t54, t55, t56, t57, t58, t59, t60, t61, t62, t63, t64, t65, t66, t67, t68, t69, t70, t71, t72, t73, t74, t75, t76, t77, t78, t79, t80, t81, t82, t83, t84, t85, t86, t87, t88, t89, t90, t91, t92, t93], ds⟩ wr0 := by
  have H := Lib.hid h; clear h
  have HR := Lib.hid hr; clear hr
  have l3 : z3 < V.heap.size := World.block_lt_of_cell? _ _ h3
  have s2 : ((s : Int) < 2) := by omega
  conv in (bodyOf _ _) => whnf
  dsimp only
  go_loopw [36] (fun s36 wr => ∃ k : Nat, k ≤ L.length ∧ s36 = .int .i64 k ∧ Hid (∀ j, j < k → numbB n L j = 0) ∧ Gr V wr) (fun s36 _ => L.length - (intOf s36).toNat)
  case atStart => exact ⟨0, Nat.zero_le _, by go_num, Lib.hid (fun j hj => by omega), hG⟩
  case round =>
    clear hG
    obtain ⟨k, hk, rfl, HZ, hG⟩ := hrel
    have hzG := Below.size hG
    by_cases hlt : k < L.length
    · obtain ⟨g, o, hA, hg, hc⟩ := rowInt (hL.below hG hB) hlt
      obtain ⟨x, hx⟩ : ∃ x, L[k]? = some x := ⟨L[k], List.getElem?_eq_getElem hlt⟩
      have v0 := hc k x hx
      have HX := Lib.hid hx
      have HC := Lib.hid hc
      have lg : g < wr.heap.size := Nat.lt_of_lt_of_le (Nat.lt_of_lt_of_le hg hB) hzG
      have i1 : ((k : Int) < (L.length : Int)) := by omega
      have d3 := (hG.cell (p := ⟨z3, s, none⟩) l3).trans h3
      have l3' : z3 < wr.heap.size := by omega
      have b6' := b6.gr hG
      have b7' := b7.gr hG
      have e6 := b6'.cell 0
      have e7 := b7'.cell 0
      have f6 := b6'.frozen
      have f7 := b7'.frozen
      have l6 := b6'.lt
      have l7 := b7'.lt
      have hne : z6 ≠ z7 := Blk.ne_ b6 b7 (by decide)
      subst hA
      clear hx hc
      have HBAD : Hid (∀ e, numbB n L k = e → e ≠ 0 → numbE n L = e) := Lib.hid (fun e he hne => by unfold numbE; rw [firstBad_at HZ.out (by rw [he]; exact hne) hlt, he])
      cases hw : wi x 0 ((n : Int) - 1)
      · have Q0 := Lib.hid hw
        have hE := HBAD.out 6 (by rw [numb_at HX.out, if_pos hw]) (by decide)
        have HR6 := Lib.hid (HR.out)
        rw [hE] at HR6
        clear hw
        go_wp2_with (go_at_call 92; refine (within_any _ _ _ _).mono ?_; rw [Q0.out]; rintro e w1 ⟨rfl, rfl⟩)
        exact HR6.out _ _ _ _ _ _ _ _ _ _ _ _ _ _ _ _ _ _ _ _ _ _ _ _ _ _ _ _ _ wr (by decide) hG
      · have Q0 := Lib.hid hw
        rcases Nat.eq_zero_or_pos k with hk0 | hk0
        · subst hk0
          have HZN : Hid (∀ j, j < 0 + 1 → numbB n L j = 0) := Lib.hid (fun j hj => by
            obtain rfl : j = 0 := by omega
            rw [numb_at HX.out, if_neg (by rw [hw]; decide), if_neg (by omega)])
          rw [Nat.add_zero] at v0
          clear hw
          go_wp2_with (go_at_call 92; refine (within_any _ _ _ _).mono ?_; rw [Q0.out]; rintro e w1 ⟨rfl, rfl⟩)
          exact ⟨⟨1, by omega, by go_num, HZN, hG⟩, by simp [intOf]; omega⟩
        · obtain ⟨y, hy⟩ : ∃ y, L[k - 1]? = some y := ⟨L[k - 1]'(by omega), List.getElem?_eq_getElem _⟩
          have v1 := HC.out (k - 1) y hy
          have k1 : ((k : Int) - 1) = ((k - 1 : Nat) : Int) := by omega
          have k2 : ((k - 1 : Nat) : Int) < (L.length : Int) := by omega
          have hk0' : ((k : Int) > 0) := by omega
          have hk0'' : (0 < (k : Int)) := by omega
          have k3 : ((k : Int) - 1).toNat = k - 1 := by omega
          have k4 : (0 : Int) ≤ (k : Int) - 1 := by omega
          have k5 : (k : Int) - 1 < (L.length : Int) := by omega
          by_cases hxy : x ≤ y
          · have hE := HBAD.out 9 (by rw [numb_at HX.out, if_neg (by rw [hw]; decide), if_pos ⟨hk0, by rw [hy]; exact hxy⟩]) (by decide)
            have HR6 := Lib.hid (HR.out)
            rw [hE] at HR6
            clear hw
            go_wp2_with (go_at_call 92; refine (within_any _ _ _ _).mono ?_; rw [Q0.out]; rintro e w1 ⟨rfl, rfl⟩)
            exact HR6.out _ _ _ _ _ _ _ _ _ _ _ _ _ _ _ _ _ _ _ _ _ _ _ _ _ _ _ _ _ wr (by decide) hG
          · have HZN : Hid (∀ j, j < k + 1 → numbB n L j = 0) := Lib.hid (fun j hj => by
              by_cases e : j = k
              · subst e; rw [numb_at HX.out, if_neg (by rw [hw]; decide), if_neg (by rw [hy]; exact fun h => hxy h.2)]
              · exact HZ.out j (by omega))
            clear hw
            go_wp2_with (go_at_call 92; refine (within_any _ _ _ _).mono ?_; rw [Q0.out]; rintro e w1 ⟨rfl, rfl⟩)
            exact ⟨⟨k + 1, by omega, by go_num, HZN, hG⟩, by simp [intOf]; omega⟩
    · obtain rfl : k = L.length := by omega
      go_wp2
      exact H.out _ _ _ _ _ _ _ _ _ _ _ _ _ _ _ _ _ _ _ _ _ _ _ _ _ _ _ _ _ wr (firstBad_pre HZ.out) hG
end Go.Proofs.YtidgeagpgllkeaaGreat

namespace Go.Proofs.YtidgeagpgllkeaaGreat
open Go.RowKit Go.Shelf

attribute [local go_sem] Oper.semAt_some

theorem contains_any (L : List Int) (A : Option Addr) (c B : Nat) (x : Int) (w : World) (hL : Row w B 1 A L.length (intsC L)) (hl : L.length ≤ 1000000) :
    Calls Tryz.prog 134 #[.slice A L.length c, .int .i64 x] w fun e w' => e = .returned (.bool (L.contains x)) ∧ w' = w := by
  rcases Nat.eq_zero_or_pos L.length with h0 | h0
  · obtain rfl := List.eq_nil_of_length_eq_zero h0
    exact Tryz.slices_Contains_int_empty A c x w
  · obtain ⟨g, o, rfl, _, hc⟩ := hL.2 h0
    have := Tryz.slices_Contains_int g o L.length c L x w (Nat.le_refl _) (by omega) (fun j hj => hc j _ (by simp [intsC, hj, List.getD]))
    rw [List.take_length] at this
    exact this
theorem like_any (q : Nat) (i : Int) (w : World) :
    Calls Tryz.prog 133 #[.pointer (some ⟨q, 0, none⟩), .int .i64 i] w fun e w' => e = .returned (.func (.func 159) #[] #[.pointer (some ⟨w.heap.size, 0, none⟩), .pointer (some ⟨w.heap.size + 1, 0, none⟩)]) ∧
      (w.alloc (.cells #[.pointer (some ⟨q, 0, none⟩)] 195)).alloc (.cells #[.int .i64 i] 3) = w' := by
  go_enter Tryz.func133, Tryz.ntmps133
  go_wp2
  go_ret
  exact ⟨rfl, rfl⟩
theorem like_stops (n : Nat) (hn : 1 ≤ n) (Bm Bi q B : Nat) (l0 l1 : List Mk) (A0 A1 : Option Addr) (c0 c1 i : Nat) (slack : Int) (hi : i < l0.length) (hl1 : l1.length ≤ 1000) (hl0 : l0.length ≤ 1000) (HS : Hid (MkS (l0[i]?.getD mkZ) ∧ ∀ m ∈ l1, MkS m)) (w : World) (M : LkM Bm Bi q B i l0 l1 A0 A1 c0 c1 slack w) :
    SeqStopsK Fence.wide n Tryz.prog 159 #[.pointer (some ⟨Bm, 0, none⟩), .pointer (some ⟨Bi, 0, none⟩)] (fun x : LikeK (likeR l0 l1 i slack) l1.length => #[.int .i64 x.1]) (KL Bm Bi q B) (fun ys : List (LikeK (likeR l0 l1 i slack) l1.length) => ys.map (·.1) = likeV (likeR l0 l1 i slack) l1.length) (fun pre : List (LikeK (likeR l0 l1 i slack) l1.length) => pre.map (·.1) <+: likeV (likeR l0 l1 i slack) l1.length) l1.length w := fun l J Jx W hW hJ _ hY h0 => by
  refine (like1_in n hn l Bm Bi q B l0 l1 A0 A1 c0 c1 i slack hi hl1 hl0 HS J Jx (fun pre X Y hj hg => hJ pre X Y none hj ⟨hg.os, hg.tape, hg.output, hg.size, fun b hb _ => hg.block b hb⟩ (fun r e => by cases e)) hY W (M.gr hW) h0).mono ?_
  rintro e W' ⟨he, ⟨ys, h1, hj⟩ | ⟨pre, h1, hj⟩⟩
  · exact ⟨he, .inl ⟨ys, h1, hj⟩⟩
  · exact ⟨he, .inr ⟨pre, h1, hj⟩⟩
theorem mem_likeV {R : Nat → Bool} {n k : Nat} : k ∈ likeV R n ↔ k < n ∧ R k = true := by unfold likeV; rw [List.mem_filter, List.mem_range]
theorem likeR_rel (l0 l1 : List Mk) (i : Nat) (slack : Int) (k : Nat) : likeR l0 l1 i slack k = relV l0 l1 slack (i : Int) (k : Int) := by unfold likeR relV; rw [Int.toNat_natCast, Int.toNat_natCast]
end Go.Proofs.YtidgeagpgllkeaaGreat
