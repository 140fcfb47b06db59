/- Contract: flaw.CheckCover, the numbers of one side. Contracts: whether a list has a number; the iterator of the marks that are alike, as a value. Contract: flaw.CheckCover, one mark of the first list. -/
import Derived.Test.YtidgeagpgllkeaaGreatZcFpE
import Derived.Test.YtidgeagpgllkeaaGreatZcFaX
namespace Go.Proofs.YtidgeagpgllkeaaGreat
open Go.RowKit

theorem numb_at {n : Nat} {L : List Int} {k : Nat} {x : Int} (h : L[k]? = some x) : numbB n L k = if wi x 0 ((n : Int) - 1) = false then 6 else if 0 < k ∧ x ≤ L[k - 1]?.getD 0 then 9 else 0 := by unfold numbB; rw [h]; rfl
theorem rowInt {w : World} {B : Nat} {A : Option Addr} {L : List Int} (h : Row w B 1 A L.length (intsC L)) {k : Nat} (hk : k < L.length) : ∃ g o, A = some ⟨g, o, none⟩ ∧ g < B ∧ ∀ j x, L[j]? = some x → w.cell? ⟨g, o + j, none⟩ = some (.int .i64 x) := by
  obtain ⟨g, o, hA, hg, hc⟩ := h.2 (by omega)
  exact ⟨g, o, hA, hg, fun j x hj => hc j _ (by simp [intsC, hj])⟩

set_option maxRecDepth 100000 in
set_option maxHeartbeats 8000000 in
theorem ccLoop2 {V wr0 : World} {z3 z6 z7 n s B cs cL : Nat} {As AL : Option Addr} {L : List Int} (h3 : V.cell? ⟨z3, s, none⟩ = some (.slice As n cs)) (hs : s < 2) (b6 : Blk V z6 3 #[.int .i64 0]) (b7 : Blk V z7 32 #[.int .i64 0]) (hL : Row V B 1 AL L.length (intsC L)) (hB : B ≤ V.heap.size) (hLl : L.length ≤ 1000) (hn : n ≤ 1000) (hG : Gr V wr0) {t0 t1 t2 t4 t5 t8 t9 t12 t13 t14 t15 t16 t17 t18 t19 t20 t21 t22 t23 t24 t25 t26 t27 t28 t29 t30 t31 t32 t33 t37 t38 t39 t40 t41 t42 t43 t44 t45 t46 t47 t48 t49 t50 t51 t52 t53 t54 t55 t56 t57 t58 t59 t60 t61 t62 t63 t64 t65 t66 t67 t68 t69 t70 t71 t72 t73 t74 t75 t76 t77 t78 t79 t80 t81 t82 t83 t84 t85 t86 t87 t88 t89 t90 t91 t92 t93 : Value} {ds : List Deferred} (Q' : Exit → Act → World → Prop)
    (hr : ∀ (t12 t13 t36 t37 t38 t39 t40 t41 t42 t43 t44 t45 t46 t47 t48 t49 t50 t51 t52 t53 t54 t55 t56 t57 t58 t59 t60 t61 t62 : Value) (w1 : World), numbE n L ≠ 0 → Gr V w1 → Q' .ret ⟨#[t0, t1, t2, .pointer (some ⟨z3, 0, none⟩), t4, t5, .pointer (some ⟨z6, 0, none⟩), .pointer (some ⟨z7, 0, none⟩), t8, t9, .int .i64 s, .slice AL L.length cL, t12, t13, t14, t15, t16, t17, t18, t19, t20, t21, t22, t23, t24, t25, t26, t27, t28, t29, t30, t31, t32, t33, .slice AL L.length cL, .int .i64 L.length, t36, t37, t38, t39, t40, t41, t42, t43, t44, t45, t46, t47, t48, t49, t50, t51, t52, t53, t54, t55, t56, t57, t58, t59, t60, t61, t62, t63, t64, t65, t66, t67, t68, t69, t70, t71, t72, t73, t74, t75, t76, t77, t78, t79, t80, t81, t82, t83, t84, t85, t86, t87, t88, t89, t90, t91, t92, t93], ds⟩ ((w1.setCell ⟨z6, 0, none⟩ (.int .i64 0)).setCell ⟨z7, 0, none⟩ (.int .i64 (numbE n L))))
    (h : ∀ (t12 t13 t36 t37 t38 t39 t40 t41 t42 t43 t44 t45 t46 t47 t48 t49 t50 t51 t52 t53 t54 t55 t56 t57 t58 t59 t60 t61 t62 : Value) (w1 : World), numbE n L = 0 → Gr V w1 → Q' (.exit 2) ⟨#[t0, t1, t2, .pointer (some ⟨z3, 0, none⟩), t4, t5, .pointer (some ⟨z6, 0, none⟩), .pointer (some ⟨z7, 0, none⟩), t8, t9, .int .i64 s, .slice AL L.length cL, t12, t13, t14, t15, t16, t17, t18, t19, t20, t21, t22, t23, t24, t25, t26, t27, t28, t29, t30, t31, t32, t33, .slice AL L.length cL, .int .i64 L.length, t36, t37, t38, t39, t40, t41, t42, t43, t44, t45, t46, t47, t48, t49, t50, t51, t52, t53, t54, t55, t56, t57, t58, t59, t60, t61, t62, t63, t64, t65, t66, t67, t68, t69, t70, t71, t72, t73, t74, t75, t76, t77, t78, t79, t80, t81, t82, t83, t84, t85, t86, t87, t88, t89, t90, t91, t92, t93], ds⟩ w1) :
    (Code.loop (bodyOf Tryz.f75 1)).wp Tryz.prog Q' ⟨#[t0, t1, t2, .pointer (some ⟨z3, 0, none⟩), t4, t5, .pointer (some ⟨z6, 0, none⟩), .pointer (some ⟨z7, 0, none⟩), t8, t9, .int .i64 s, .slice AL L.length cL, t12, t13, t14, t15, t16, t17, t18, t19, t20, t21, t22, t23, t24, t25, t26, t27, t28, t29, t30, t31, t32, t33, .slice AL L.length cL, .int .i64 L.length, .int .i64 0, t37, t38, t39, t40, t41, t42, t43, t44, t45, t46, t47, t48, t49, t50, t51, t52, t53, t54, t55, t56, t57, t58, t59, t60, t61, t62, t63, t64, t65, t66, t67, t68, t69, t70, t71, t72, t73, t74, t75, t76, t77, t78, t79, t80, t81, t82, t83, t84, t85, t86, t87, t88, t89, t90, t91, t92, t93], ds⟩ wr0 := by
  have H := Lib.hid h; clear h
  have HR := Lib.hid hr; clear hr
  have l3 : z3 < V.heap.size := World.block_lt_of_cell? _ _ h3
  have s2 : ((s : Int) < 2) := by omega
  conv in (bodyOf _ _) => whnf
  dsimp only
  go_loopw [36] (fun s36 wr => ∃ k : Nat, k ≤ L.length ∧ s36 = .int .i64 k ∧ Hid (∀ j, j < k → numbB n L j = 0) ∧ Gr V wr) (fun s36 _ => L.length - (intOf s36).toNat)
  case atStart => exact ⟨0, Nat.zero_le _, by go_num, Lib.hid (fun j hj => by omega), hG⟩
  case round =>
    clear hG
    obtain ⟨k, hk, rfl, HZ, hG⟩ := hrel
    have hzG := Below.size hG
    by_cases hlt : k < L.length
    · obtain ⟨g, o, hA, hg, hc⟩ := rowInt (hL.below hG hB) hlt
      obtain ⟨x, hx⟩ : ∃ x, L[k]? = some x := ⟨L[k], List.getElem?_eq_getElem hlt⟩
      have v0 := hc k x hx
      have HX := Lib.hid hx
      have HC := Lib.hid hc
      have lg : g < wr.heap.size := Nat.lt_of_lt_of_le (Nat.lt_of_lt_of_le hg hB) hzG
      have i1 : ((k : Int) < (L.length : Int)) := by omega
      have d3 := (hG.cell (p := ⟨z3, s, none⟩) l3).trans h3
      have l3' : z3 < wr.heap.size := by omega
      have b6' := b6.gr hG
      have b7' := b7.gr hG
      have e6 := b6'.cell 0
      have e7 := b7'.cell 0
      have f6 := b6'.frozen
      have f7 := b7'.frozen
      have l6 := b6'.lt
      have l7 := b7'.lt
      have hne : z6 ≠ z7 := Blk.ne_ b6 b7 (by decide)
      subst hA
      clear hx hc
      have HBAD : Hid (∀ e, numbB n L k = e → e ≠ 0 → numbE n L = e) := Lib.hid (fun e he hne => by unfold numbE; rw [firstBad_at HZ.out (by rw [he]; exact hne) hlt, he])
      cases hw : wi x 0 ((n : Int) - 1)
      · have Q0 := Lib.hid hw
        have hE := HBAD.out 6 (by rw [numb_at HX.out, if_pos hw]) (by decide)
        have HR6 := Lib.hid (HR.out)
        rw [hE] at HR6
        clear hw
        go_wp2_with (go_at_call 92; refine (within_any _ _ _ _).mono ?_; rw [Q0.out]; rintro e w1 ⟨rfl, rfl⟩)
        exact HR6.out _ _ _ _ _ _ _ _ _ _ _ _ _ _ _ _ _ _ _ _ _ _ _ _ _ _ _ _ _ wr (by decide) hG
      · have Q0 := Lib.hid hw
        rcases Nat.eq_zero_or_pos k with hk0 | hk0
        · subst hk0
          have HZN : Hid (∀ j, j < 0 + 1 → numbB n L j = 0) := Lib.hid (fun j hj => by
            obtain rfl : j = 0 := by omega
            rw [numb_at HX.out, if_neg (by rw [hw]; decide), if_neg (by omega)])
          rw [Nat.add_zero] at v0
          clear hw
          go_wp2_with (go_at_call 92; refine (within_any _ _ _ _).mono ?_; rw [Q0.out]; rintro e w1 ⟨rfl, rfl⟩)
          exact ⟨⟨1, by omega, by go_num, HZN, hG⟩, by simp [intOf]; omega⟩
        · obtain ⟨y, hy⟩ : ∃ y, L[k - 1]? = some y := ⟨L[k - 1]'(by omega), List.getElem?_eq_getElem _⟩
          have v1 := HC.out (k - 1) y hy
          have k1 : ((k : Int) - 1) = ((k - 1 : Nat) : Int) := by omega
          have k2 : ((k - 1 : Nat) : Int) < (L.length : Int) := by omega
          have hk0' : ((k : Int) > 0) := by omega
          have hk0'' : (0 < (k : Int)) := by omega
          have k3 : ((k : Int) - 1).toNat = k - 1 := by omega
          have k4 : (0 : Int) ≤ (k : Int) - 1 := by omega
          have k5 : (k : Int) - 1 < (L.length : Int) := by omega
          by_cases hxy : x ≤ y
          · have hE := HBAD.out 9 (by rw [numb_at HX.out, if_neg (by rw [hw]; decide), if_pos ⟨hk0, by rw [hy]; exact hxy⟩]) (by decide)
            have HR6 := Lib.hid (HR.out)
            rw [hE] at HR6
            clear hw
            go_wp2_with (go_at_call 92; refine (within_any _ _ _ _).mono ?_; rw [Q0.out]; rintro e w1 ⟨rfl, rfl⟩)
            exact HR6.out _ _ _ _ _ _ _ _ _ _ _ _ _ _ _ _ _ _ _ _ _ _ _ _ _ _ _ _ _ wr (by decide) hG
          · have HZN : Hid (∀ j, j < k + 1 → numbB n L j = 0) := Lib.hid (fun j hj => by
              by_cases e : j = k
              · subst e; rw [numb_at HX.out, if_neg (by rw [hw]; decide), if_neg (by rw [hy]; exact fun h => hxy h.2)]
              · exact HZ.out j (by omega))
            clear hw
            go_wp2_with (go_at_call 92; refine (within_any _ _ _ _).mono ?_; rw [Q0.out]; rintro e w1 ⟨rfl, rfl⟩)
            exact ⟨⟨k + 1, by omega, by go_num, HZN, hG⟩, by simp [intOf]; omega⟩
    · obtain rfl : k = L.length := by omega
      go_wp2
      exact H.out _ _ _ _ _ _ _ _ _ _ _ _ _ _ _ _ _ _ _ _ _ _ _ _ _ _ _ _ _ wr (firstBad_pre HZ.out) hG
end Go.Proofs.YtidgeagpgllkeaaGreat

namespace Go.Proofs.YtidgeagpgllkeaaGreat
open Go.RowKit Go.Shelf

attribute [local go_sem] Oper.semAt_some

theorem contains_any (L : List Int) (A : Option Addr) (c B : Nat) (x : Int) (w : World) (hL : Row w B 1 A L.length (intsC L)) (hl : L.length ≤ 1000000) :
    Calls Tryz.prog 134 #[.slice A L.length c, .int .i64 x] w fun e w' => e = .returned (.bool (L.contains x)) ∧ w' = w := by
  rcases Nat.eq_zero_or_pos L.length with h0 | h0
  · obtain rfl := List.eq_nil_of_length_eq_zero h0
    exact Tryz.slices_Contains_int_empty A c x w
  · obtain ⟨g, o, rfl, _, hc⟩ := hL.2 h0
    have := Tryz.slices_Contains_int g o L.length c L x w (Nat.le_refl _) (by omega) (fun j hj => hc j _ (by simp [intsC, hj, List.getD]))
    rw [List.take_length] at this
    exact this
theorem like_any (q : Nat) (i : Int) (w : World) :
    Calls Tryz.prog 133 #[.pointer (some ⟨q, 0, none⟩), .int .i64 i] w fun e w' => e = .returned (.func (.func 159) #[] #[.pointer (some ⟨w.heap.size, 0, none⟩), .pointer (some ⟨w.heap.size + 1, 0, none⟩)]) ∧
      (w.alloc (.cells #[.pointer (some ⟨q, 0, none⟩)] 195)).alloc (.cells #[.int .i64 i] 3) = w' := by
  go_enter Tryz.func133, Tryz.ntmps133
  go_wp2
  go_ret
  exact ⟨rfl, rfl⟩
theorem like_stops (n : Nat) (hn : 1 ≤ n) (Bm Bi q B : Nat) (l0 l1 : List Mk) (A0 A1 : Option Addr) (c0 c1 i : Nat) (slack : Int) (hi : i < l0.length) (hl1 : l1.length ≤ 1000) (hl0 : l0.length ≤ 1000) (HS : Hid (MkS (l0[i]?.getD mkZ) ∧ ∀ m ∈ l1, MkS m)) (w : World) (M : LkM Bm Bi q B i l0 l1 A0 A1 c0 c1 slack w) :
    SeqStopsK Fence.wide n Tryz.prog 159 #[.pointer (some ⟨Bm, 0, none⟩), .pointer (some ⟨Bi, 0, none⟩)] (fun x : LikeK (likeR l0 l1 i slack) l1.length => #[.int .i64 x.1]) (KL Bm Bi q B) (fun ys : List (LikeK (likeR l0 l1 i slack) l1.length) => ys.map (·.1) = likeV (likeR l0 l1 i slack) l1.length) (fun pre : List (LikeK (likeR l0 l1 i slack) l1.length) => pre.map (·.1) <+: likeV (likeR l0 l1 i slack) l1.length) l1.length w := fun l J Jx W hW hJ _ hY h0 => by
  refine (like1_in n hn l Bm Bi q B l0 l1 A0 A1 c0 c1 i slack hi hl1 hl0 HS J Jx (fun pre X Y hj hg => hJ pre X Y none hj ⟨hg.os, hg.tape, hg.output, hg.size, fun b hb _ => hg.block b hb⟩ (fun r e => by cases e)) hY W (M.gr hW) h0).mono ?_
  rintro e W' ⟨he, ⟨ys, h1, hj⟩ | ⟨pre, h1, hj⟩⟩
  · exact ⟨he, .inl ⟨ys, h1, hj⟩⟩
  · exact ⟨he, .inr ⟨pre, h1, hj⟩⟩
theorem mem_likeV {R : Nat → Bool} {n k : Nat} : k ∈ likeV R n ↔ k < n ∧ R k = true := by unfold likeV; rw [List.mem_filter, List.mem_range]
theorem likeR_rel (l0 l1 : List Mk) (i : Nat) (slack : Int) (k : Nat) : likeR l0 l1 i slack k = relV l0 l1 slack (i : Int) (k : Int) := by unfold likeR relV; rw [Int.toNat_natCast, Int.toNat_natCast]
end Go.Proofs.YtidgeagpgllkeaaGreat

namespace Go.Proofs.YtidgeagpgllkeaaGreat
open Go.RowKit Go.Shelf

attribute [local go_sem] Oper.semAt_some

/-- What lies in memory while a cover is checked. -/
structure CcM (V : World) (q z5 z6 z7 B n₀ : Nat) (l0 l1 : List Mk) (A0 A1 AF AS : Option Addr) (c0 c1 cF cS : Nat) (slack : Int) (v0 v1 : Value) (Fl Sl : List Int) : Prop where
  box : Blk V q 200 #[.slice A0 l0.length c0, .slice A1 l1.length c1, .int .i64 slack, v0, v1]
  r0 : Row V B 6 A0 l0.length (mksC l0)
  r1 : Row V B 6 A1 l1.length (mksC l1)
  b5 : Blk V z5 126 #[.slice AF Fl.length cF, .slice AS Sl.length cS]
  rF : Row V B 1 AF Fl.length (intsC Fl)
  rS : Row V B 1 AS Sl.length (intsC Sl)
  b6 : Blk V z6 3 #[.int .i64 0]
  b7 : Blk V z7 32 #[.int .i64 0]
  base : B ≤ V.heap.size
  low6 : n₀ ≤ z6
  low7 : n₀ ≤ z7
  low : n₀ ≤ V.heap.size
theorem CcM.gr {V W : World} {q z5 z6 z7 B n₀ : Nat} {l0 l1 : List Mk} {A0 A1 AF AS : Option Addr} {c0 c1 cF cS : Nat} {slack : Int} {v0 v1 : Value} {Fl Sl : List Int} (h : CcM V q z5 z6 z7 B n₀ l0 l1 A0 A1 AF AS c0 c1 cF cS slack v0 v1 Fl Sl) (g : Gr V W) : CcM W q z5 z6 z7 B n₀ l0 l1 A0 A1 AF AS c0 c1 cF cS slack v0 v1 Fl Sl :=
  ⟨h.box.gr g, h.r0.below g h.base, h.r1.below g h.base, h.b5.gr g, h.rF.below g h.base, h.rS.below g h.base, h.b6.gr g, h.b7.gr g, Nat.le_trans h.base (Below.size g), h.low6, h.low7, Nat.le_trans h.low (Below.size g)⟩
theorem below_grown {V W W' : World} {B : Nat} {row : Option Nat} (h : Below V.heap.size V W) (hg : W.grownBy W' row) (hr : ∀ r, row = some r → B ≤ r) (hB : V.heap.size ≤ B) : Below V.heap.size V W' := h.grown hg (Below.size h) (fun r e => Nat.le_trans hB (hr r e))

set_option maxRecDepth 100000 in
set_option maxHeartbeats 8000000 in
theorem ccRound {V : World} {z3 q z5 z6 z7 B n₀ : Nat} {l0 l1 : List Mk} {A0 A1 AF AS : Option Addr} {c0 c1 cF cS : Nat} {slack : Int} {v0 v1 : Value} {Fl Sl : List Int} (M : CcM V q z5 z6 z7 B n₀ l0 l1 A0 A1 AF AS c0 c1 cF cS slack v0 v1 Fl Sl) (hn0 : l0.length ≤ 1000) (hn1 : l1.length ≤ 1000) (hF : Fl.length ≤ 1000000) (hS : Sl.length ≤ 1000000) (HS0 : Hid (∀ m ∈ l0, MkS m)) (HS1 : Hid (∀ m ∈ l1, MkS m)) (i : Nat) (hi : i ≤ l0.length) (Ds : List Nat) (wr : World) (hG : Gr V wr) (hMk : Marks n₀ Ds wr)
    (K' : Act → World → Prop) (Q' : Exit → Act → World → Prop) {t0 t1 t2 t4 t9 t10 t11 t12 t13 t14 t15 t16 t17 t18 t19 t20 t21 t22 t23 t24 t25 t26 t27 t28 t29 t30 t31 t32 t33 t34 t35 t36 t37 t38 t39 t40 t41 t42 t43 t44 t45 t46 t47 t48 t49 t50 t51 t52 t53 t54 t55 t56 t57 t58 t59 t60 t61 t62 t63 t64 t65 t68 t69 t70 t71 t72 t73 t74 t75 t76 t77 t78 t79 t80 t81 t82 t83 t84 t85 t86 t87 t88 t89 t90 t91 t92 t93 : Value}
    (hnext : ∀ (t0 t1 t2 t4 t9 t10 t11 t12 t13 t14 t15 t16 t17 t18 t19 t20 t21 t22 t23 t24 t25 t26 t27 t28 t29 t30 t31 t32 t33 t34 t35 t36 t37 t38 t39 t40 t41 t42 t43 t44 t45 t46 t47 t48 t49 t50 t51 t52 t53 t54 t55 t56 t57 t58 t59 t60 t61 t62 t63 t64 t65 t68 t69 t70 t71 t72 t73 t74 t75 t76 t77 t78 t79 t80 t81 t82 t83 t84 t85 t86 t87 t88 t89 t90 t91 t92 t93 : Value) (Ds : List Nat) (wr : World), i < l0.length → (∀ k : Nat, k < l1.length → openB (relV l0 l1 slack) Fl Sl (i : Int) (k : Int) = false) → Gr V wr → Marks n₀ Ds wr → K' ⟨#[t0, t1, t2, .pointer (some ⟨z3, 0, none⟩), t4, .pointer (some ⟨z5, 0, none⟩), .pointer (some ⟨z6, 0, none⟩), .pointer (some ⟨z7, 0, none⟩), .pointer (some ⟨q, 0, none⟩), t9, t10, t11, t12, t13, t14, t15, t16, t17, t18, t19, t20, t21, t22, t23, t24, t25, t26, t27, t28, t29, t30, t31, t32, t33, t34, t35, t36, t37, t38, t39, t40, t41, t42, t43, t44, t45, t46, t47, t48, t49, t50, t51, t52, t53, t54, t55, t56, t57, t58, t59, t60, t61, t62, t63, t64, t65, .int .i64 l0.length, .int .i64 ((i + 1 : Nat) : Int), t68, t69, t70, t71, t72, t73, t74, t75, t76, t77, t78, t79, t80, t81, t82, t83, t84, t85, t86, t87, t88, t89, t90, t91, t92, t93], marksOf Ds⟩ wr)
    (hret : ∀ (t0 t1 t2 t4 t9 t10 t11 t12 t13 t14 t15 t16 t17 t18 t19 t20 t21 t22 t23 t24 t25 t26 t27 t28 t29 t30 t31 t32 t33 t34 t35 t36 t37 t38 t39 t40 t41 t42 t43 t44 t45 t46 t47 t48 t49 t50 t51 t52 t53 t54 t55 t56 t57 t58 t59 t60 t61 t62 t63 t64 t65 t68 t69 t70 t71 t72 t73 t74 t75 t76 t77 t78 t79 t80 t81 t82 t83 t84 t85 t86 t87 t88 t89 t90 t91 t92 t93 : Value) (Ds : List Nat) (w' : World), i < l0.length → (∃ k : Nat, k < l1.length ∧ openB (relV l0 l1 slack) Fl Sl (i : Int) (k : Int) = true) → Below n₀ V w' → Blk w' z6 3 #[.int .i64 0] → Blk w' z7 32 #[.int .i64 18] → Marks n₀ Ds w' → Q' .ret ⟨#[t0, t1, t2, .pointer (some ⟨z3, 0, none⟩), t4, .pointer (some ⟨z5, 0, none⟩), .pointer (some ⟨z6, 0, none⟩), .pointer (some ⟨z7, 0, none⟩), .pointer (some ⟨q, 0, none⟩), t9, t10, t11, t12, t13, t14, t15, t16, t17, t18, t19, t20, t21, t22, t23, t24, t25, t26, t27, t28, t29, t30, t31, t32, t33, t34, t35, t36, t37, t38, t39, t40, t41, t42, t43, t44, t45, t46, t47, t48, t49, t50, t51, t52, t53, t54, t55, t56, t57, t58, t59, t60, t61, t62, t63, t64, t65, .int .i64 l0.length, .int .i64 (i : Int), t68, t69, t70, t71, t72, t73, t74, t75, t76, t77, t78, t79, t80, t81, t82, t83, t84, t85, t86, t87, t88, t89, t90, t91, t92, t93], marksOf Ds⟩ w')
    (hexit : ∀ (t0 t1 t2 t4 t9 t10 t11 t12 t13 t14 t15 t16 t17 t18 t19 t20 t21 t22 t23 t24 t25 t26 t27 t28 t29 t30 t31 t32 t33 t34 t35 t36 t37 t38 t39 t40 t41 t42 t43 t44 t45 t46 t47 t48 t49 t50 t51 t52 t53 t54 t55 t56 t57 t58 t59 t60 t61 t62 t63 t64 t65 t68 t69 t70 t71 t72 t73 t74 t75 t76 t77 t78 t79 t80 t81 t82 t83 t84 t85 t86 t87 t88 t89 t90 t91 t92 t93 : Value), i = l0.length → Q' (.exit 5) ⟨#[t0, t1, t2, .pointer (some ⟨z3, 0, none⟩), t4, .pointer (some ⟨z5, 0, none⟩), .pointer (some ⟨z6, 0, none⟩), .pointer (some ⟨z7, 0, none⟩), .pointer (some ⟨q, 0, none⟩), t9, t10, t11, t12, t13, t14, t15, t16, t17, t18, t19, t20, t21, t22, t23, t24, t25, t26, t27, t28, t29, t30, t31, t32, t33, t34, t35, t36, t37, t38, t39, t40, t41, t42, t43, t44, t45, t46, t47, t48, t49, t50, t51, t52, t53, t54, t55, t56, t57, t58, t59, t60, t61, t62, t63, t64, t65, .int .i64 l0.length, .int .i64 (i : Int), t68, t69, t70, t71, t72, t73, t74, t75, t76, t77, t78, t79, t80, t81, t82, t83, t84, t85, t86, t87, t88, t89, t90, t91, t92, t93], marksOf Ds⟩ wr) :
    (bodyOf Tryz.f75 2).wp Tryz.prog (Exit.then K' Q') ⟨#[t0, t1, t2, .pointer (some ⟨z3, 0, none⟩), t4, .pointer (some ⟨z5, 0, none⟩), .pointer (some ⟨z6, 0, none⟩), .pointer (some ⟨z7, 0, none⟩), .pointer (some ⟨q, 0, none⟩), t9, t10, t11, t12, t13, t14, t15, t16, t17, t18, t19, t20, t21, t22, t23, t24, t25, t26, t27, t28, t29, t30, t31, t32, t33, t34, t35, t36, t37, t38, t39, t40, t41, t42, t43, t44, t45, t46, t47, t48, t49, t50, t51, t52, t53, t54, t55, t56, t57, t58, t59, t60, t61, t62, t63, t64, t65, .int .i64 l0.length, .int .i64 (i : Int), t68, t69, t70, t71, t72, t73, t74, t75, t76, t77, t78, t79, t80, t81, t82, t83, t84, t85, t86, t87, t88, t89, t90, t91, t92, t93], marksOf Ds⟩ wr := by
  have HN := Lib.hid hnext; have HR := Lib.hid hret; have HX := Lib.hid hexit
  clear hnext hret hexit
  conv in (bodyOf _ _) => whnf
  by_cases hlt : i < l0.length
  · have i1 : ((i : Int) < (l0.length : Int)) := by omega
    have hsz0 := Below.size hG
    have hgA : Gr wr (wr.alloc (.cells #[.int .i64 (i : Int)] 3)) := (Below.refl _ _).alloc (Nat.le_refl _) _
    have bi := Blk.new wr 3 #[.int .i64 (i : Int)]
    have ci := bi.cell 0
    have li := bi.lt
    go_wp2_with fail
    obtain ⟨wa, hwa⟩ : ∃ wa, wr.alloc (.cells #[.int .i64 (i : Int)] 3) = wa := ⟨_, rfl⟩
    have hwz : wa.heap.size = wr.heap.size + 1 := by rw [← hwa]; simp
    rw [hwa] at hgA bi ci li ⊢
    clear hwa
    refine (like_any q (i : Int) wa).mono ?_
    rintro e wb ⟨rfl, hwb⟩
    have hgB : Gr wa wb := by rw [← hwb]; exact ((Below.refl _ _).alloc (Nat.le_refl _) _).alloc (by simp) _
    have bm : Blk wb wa.heap.size 195 #[.pointer (some ⟨q, 0, none⟩)] := by rw [← hwb]; exact (Blk.new wa 195 #[.pointer (some ⟨q, 0, none⟩)]).alloc _
    have bj : Blk wb (wa.heap.size + 1) 3 #[.int .i64 (i : Int)] := by
      have := Blk.new (wa.alloc (.cells #[.pointer (some ⟨q, 0, none⟩)] 195)) 3 #[.int .i64 (i : Int)]
      rw [World.size_alloc] at this
      rw [← hwb]; exact this
    rw [hwz] at bm bj ⊢
    clear hwb ci li
    have hGB : Gr V wb := Gr.trans hG (Gr.trans hgA hgB)
    have MB := M.gr hGB
    have hMkB := hMk.gr (Gr.trans hgA hgB)
    have b14 := bi.gr hgB
    have hsz1 := Below.size hGB
    have hlt0 : ∀ D ∈ Ds, D < wb.heap.size := fun D hD => hMkB.lt hD
    have hl14 := b14.lt
    have hlj := bj.lt
    have hlq := MB.box.lt
    have lm : LkM (wr.heap.size + 1) (wr.heap.size + 1 + 1) q B i l0 l1 A0 A1 c0 c1 slack wb := ⟨bm.cell 0, bj.cell 0, MB.box.cell 0, MB.box.cell 1, MB.box.cell 2, MB.r0, MB.r1, MB.base⟩
    have HSS : Hid (MkS (l0[i]?.getD mkZ) ∧ ∀ m ∈ l1, MkS m) := Lib.hid ⟨by rw [List.getElem?_eq_getElem hlt]; exact HS0.out _ (List.getElem_mem hlt), HS1.out⟩
    have hB := MB.base
    clear hG hMk bi hgA hgB
    dsimp only
    go_wp2_with fail
    refine wpIn_wide.1 (wpIn_rangeFunc_ownH (n := 5) rfl (by omega) (gf := 159) (lb := #[.pointer (some ⟨wr.heap.size + 1, 0, none⟩), .pointer (some ⟨wr.heap.size + 1 + 1, 0, none⟩)]) rfl trivial (enters_of Tryz.func159 (by kernel_rfl) rfl)
      (like_stops 4 (by omega) (wr.heap.size + 1) (wr.heap.size + 1 + 1) q B l0 l1 A0 A1 c0 c1 i slack hlt hn1 hn0 HSS wb lm) KL.trans (fun W l o o' hl _ _ _ => ⟨World.putObj_heap_other (by omega), World.putObj_heap_other (by omega), World.putObj_heap_other (by omega), fun k hk => World.putObj_heap_other (by omega), by simp⟩) (Below.refl _ _) (fun _ => rfl)
      (fun pre W => Below wb.heap.size wb W ∧ Marks n₀ Ds W ∧ ∀ x ∈ pre, Fl.contains (i : Int) = true ∨ Sl.contains (x.1 : Int) = true)
      (fun c _ W => c = .ret ∧ (∃ k : Nat, k < l1.length ∧ openB (relV l0 l1 slack) Fl Sl (i : Int) (k : Int) = true) ∧ Below n₀ V W ∧ Blk W z6 3 #[.int .i64 0] ∧ Blk W z7 32 #[.int .i64 18] ∧ Marks n₀ Ds W) ?hI ?hIx ?h0
      (fun x a' W => a' = ⟨#[t0, t1, t2, .pointer (some ⟨z3, 0, none⟩), t4, .pointer (some ⟨z5, 0, none⟩), .pointer (some ⟨z6, 0, none⟩), .pointer (some ⟨z7, 0, none⟩), .pointer (some ⟨q, 0, none⟩), t9, t10, t11, t12, t13, .pointer (some ⟨wr.heap.size, 0, none⟩), .int .i64 (x.1 : Int), t16, t17, t18, t19, t20, t21, t22, t23, t24, t25, t26, t27, t28, t29, t30, t31, t32, t33, t34, t35, t36, t37, t38, t39, t40, t41, t42, t43, t44, t45, t46, t47, t48, t49, t50, t51, t52, t53, t54, t55, t56, t57, t58, t59, t60, t61, t62, t63, t64, t65, .int .i64 l0.length, .int .i64 (i : Int), .bool true, .int .i64 (i : Int), .pointer (some ⟨q, 0, none⟩), .int .i64 (i : Int), .func (.func 159) #[] #[.pointer (some ⟨wr.heap.size + 1, 0, none⟩), .pointer (some ⟨wr.heap.size + 1 + 1, 0, none⟩)], .int .i64 (x.1 : Int), t74, t75, t76, t77, t78, t79, t80, t81, t82, t83, t84, t85, t86, t87, t88, t89, t90, t91, t92, t93], []⟩) ?hAx ?assign ?body ?done ?stop)
    case hI =>
      rintro pre X Y row ⟨h1, h2, h3⟩ hg hr
      exact ⟨below_grown h1 hg (fun r e => (hr r e).1) (Nat.le_refl _), ownFrom_marks (β := Unit) n₀ wb.heap.size Ds hlt0 () X Y row h2 hg hr, h3⟩
    case hIx =>
      rintro c pre X Y row ⟨h1, h2, h3, h4, h5, h6⟩ hg hr
      have key : ∀ {G t cs}, Blk X G t cs → some G ≠ row := fun hb e => by
        obtain ⟨_, o, ho, hc⟩ := hr _ e.symm
        obtain ⟨o', ho', hc', _⟩ := hb.iscells
        exact ne_of_cells ho' hc' ho hc rfl
      exact ⟨h1, h2, h3.grown hg (by have := h3.size; have := M.low; omega) (fun r e => by have := (hr r e).1; have := M.low; omega), h4.grown hg (key h4), h5.grown hg (key h5), ownFrom_marks (β := Unit) n₀ wb.heap.size Ds hlt0 () X Y row h6 hg hr⟩
    case h0 => exact ⟨Below.refl _ _, hMkB, fun x h => by cases h⟩
    case hAx => exact fun x a' _ X Y row h _ _ => h
    case assign =>
      intro l pre x W K hIp hK
      dsimp only [List.zip_cons_cons]
      gi_wp2
      exact hK _ _ (KeepsFrom.refl _ _) (KL.refl _ _ _ _ _) hIp rfl
    case body =>
      rintro l pre x a' W hl hrl ⟨hBW, hmW, hpre⟩ rfl hN
      dsimp only
      have MW := MB.gr hBW
      have hbb := MW.b5
      obtain ⟨f50, f51, _⟩ := blk2c hbb
      have l5 := hbb.lt
      have c14 := (b14.gr hBW).cell 0
      have l14 := (b14.gr hBW).lt
      have g6 := MW.b6
      have g7 := MW.b7
      have c6 := g6.cell 0
      have c7 := g7.cell 0
      have ff6 := g6.frozen
      have ff7 := g7.frozen
      have l6 := g6.lt
      have l7 := g7.lt
      have hne : z6 ≠ z7 := Blk.ne_ g6 g7 (by decide)
      have HRF := Lib.hid MW.rF; have HRS := Lib.hid MW.rS
      have hB' := MW.base
      have HPRE := Lib.hid hpre
      obtain ⟨x, hxl, hxr⟩ := x
      dsimp only
      have HXR : Hid (relV l0 l1 slack (i : Int) (x : Int) = true) := Lib.hid (by rw [← likeR_rel]; exact hxr)
      cases hc1 : Fl.contains (i : Int)
      · have C1 := Lib.hid hc1
        cases hc2 : Sl.contains (x : Int)
        · have C2 := Lib.hid hc2
          clear hc1 hc2
          gi_wp2_with (first
            | (refine ⟨trivial, ?_⟩; gi_at_call 134; refine (CallsIn.inRound l (callsIn_wide.2 (contains_any Fl AF cF B (i : Int) _ HRF.out hF))).mono ?_; rintro e W2 ⟨rfl, hw2⟩; rw [hw2, C1.out])
            | (refine ⟨trivial, ?_⟩; gi_at_call 134; refine (CallsIn.inRound l (callsIn_wide.2 (contains_any Sl AS cS B (x : Int) _ HRS.out hS))).mono ?_; rintro e W2 ⟨rfl, hw2⟩; rw [hw2, C2.out]))
          refine ⟨((KeepsOthers.setCell _ _ _).trans (KeepsOthers.setCell _ _ _)).from _, rfl, ⟨x, hxl, ?_⟩, ?_, ?_, ?_, ?_⟩
          · unfold openB; rw [HXR.out, C1.out, C2.out]; rfl
          · exact (((hGB.mono M.low).trans (hBW.mono MB.low)).setCell M.low6 _).setCell M.low7 _
          · exact (g6.set_ 0 (.int .i64 0)).far (p := ⟨z7, 0, none⟩) hne _
          · exact (g7.far (p := ⟨z6, 0, none⟩) (Ne.symm hne) _).set_ 0 (.int .i64 18)
          · exact (hmW.setCell g6 _).setCell (g7.far (p := ⟨z6, 0, none⟩) (Ne.symm hne) _) _
        · have C2 := Lib.hid hc2
          clear hc1 hc2
          gi_wp2_with (first
            | (refine ⟨trivial, ?_⟩; gi_at_call 134; refine (CallsIn.inRound l (callsIn_wide.2 (contains_any Fl AF cF B (i : Int) _ HRF.out hF))).mono ?_; rintro e W2 ⟨rfl, hw2⟩; rw [hw2, C1.out])
            | (refine ⟨trivial, ?_⟩; gi_at_call 134; refine (CallsIn.inRound l (callsIn_wide.2 (contains_any Sl AS cS B (x : Int) _ HRS.out hS))).mono ?_; rintro e W2 ⟨rfl, hw2⟩; rw [hw2, C2.out]))
          refine ⟨KeepsFrom.refl _ _, KL.refl _ _ _ _ _, hBW, hmW, fun y hy => ?_⟩
          rcases List.mem_append.1 hy with hy | hy
          · rcases HPRE.out y hy with h | h
            · rw [C1.out] at h; cases h
            · exact .inr h
          · obtain rfl := List.mem_singleton.1 hy
            exact .inr C2.out
      · have C1 := Lib.hid hc1
        clear hc1
        gi_wp2_with fail
        refine ⟨trivial, ?_⟩
        gi_at_call 134
        refine (CallsIn.inRound l (callsIn_wide.2 (contains_any Fl AF cF B (i : Int) _ HRF.out hF))).mono ?_
        rintro e W2 ⟨rfl, hw2⟩
        rw [hw2]
        rw [C1.out]
        gi_wp2
        refine ⟨trivial, ?_⟩
        gi_wp2
        exact ⟨KeepsFrom.refl _ _, KL.refl _ _ _ _ _, hBW, hmW⟩
    case done =>
      rintro D xs W hD hxs ⟨hBW, hmW, hpre⟩ hdf
      have HALL : Hid (∀ k : Nat, k < l1.length → openB (relV l0 l1 slack) Fl Sl (i : Int) (k : Int) = false) := Lib.hid (fun k hk => by
        unfold openB
        cases hr : relV l0 l1 slack (i : Int) (k : Int)
        · rfl
        · have hm : k ∈ likeV (likeR l0 l1 i slack) l1.length := mem_likeV.2 ⟨hk, by rw [likeR_rel]; exact hr⟩
          rw [← hxs] at hm
          obtain ⟨x, hx, rfl⟩ := List.mem_map.1 hm
          rcases hpre x hx with h | h
          · rw [h]; cases Sl.contains (x.1 : Int) <;> rfl
          · rw [h]; cases Fl.contains (i : Int) <;> rfl)
      have HMC : Hid (Marks n₀ (D :: Ds) W) := Lib.hid (hmW.cons hlt0 hD (Nat.le_trans MB.low hD) hdf)
      have HGV : Hid (Gr V W) := Lib.hid (Gr.trans hGB hBW)
      clear hBW hmW hpre hdf hxs
      dsimp only
      go_wp2_with fail
      exact HN.out _ _ _ _ _ _ _ _ _ _ _ _ _ _ _ _ _ _ _ _ _ _ _ _ _ _ _ _ _ _ _ _ _ _ _ _ _ _ _ _ _ _ _ _ _ _ _ _ _ _ _ _ _ _ _ _ _ _ _ _ _ _ _ _ _ _ _ _ _ _ _ _ _ _ _ _ _ _ _ _ _ _ _ _ _ _ _ (D :: Ds) _ hlt HALL.out HGV.out HMC.out
    case stop =>
      rintro D c pre W hD hpre ⟨rfl, h2, h3, h4, h5, h6⟩ hdf
      have HMC : Hid (Marks n₀ (D :: Ds) W) := Lib.hid (h6.cons hlt0 hD (Nat.le_trans MB.low hD) hdf)
      have H2 := Lib.hid h2; have H3 := Lib.hid h3; have H4 := Lib.hid h4; have H5 := Lib.hid h5
      clear h2 h3 h4 h5 h6 hdf hpre
      gi_wp2
      exact HR.out _ _ _ _ _ _ _ _ _ _ _ _ _ _ _ _ _ _ _ _ _ _ _ _ _ _ _ _ _ _ _ _ _ _ _ _ _ _ _ _ _ _ _ _ _ _ _ _ _ _ _ _ _ _ _ _ _ _ _ _ _ _ _ _ _ _ _ _ _ _ _ _ _ _ _ _ _ _ _ _ _ _ _ _ _ _ _ (D :: Ds) _ hlt H2.out H3.out H4.out H5.out HMC.out
  · obtain rfl : i = l0.length := by omega
    go_wp2
    exact HX.out _ _ _ _ _ _ _ _ _ _ _ _ _ _ _ _ _ _ _ _ _ _ _ _ _ _ _ _ _ _ _ _ _ _ _ _ _ _ _ _ _ _ _ _ _ _ _ _ _ _ _ _ _ _ _ _ _ _ _ _ _ _ _ _ _ _ _ _ _ _ _ _ _ _ _ _ _ _ _ _ _ _ _ _ _ _ _ (by trivial)
end Go.Proofs.YtidgeagpgllkeaaGreat
