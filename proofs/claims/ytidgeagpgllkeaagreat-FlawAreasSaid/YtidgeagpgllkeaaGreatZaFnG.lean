/- The reference's Areas: the cells of an area are gathered. The reference's Areas: the areas are gathered. -/
import Derived.Test.YtidgeagpgllkeaaGreatZaFnD
import Derived.Test.YtidgeagpgllkeaaGreatZaFnF
import Derived.Test.YtidgeagpgllkeaaGreatZaFmB
namespace Go.Proofs.YtidgeagpgllkeaaGreat
open Go.RowKit

/-- The place and the amplitude of the greatest cell so far. -/
def pkS (g : Int → Int → Int) (cs : List (Int × Int)) : (Int × Int) × Int := if cs = [] then ((0, 0), -1) else (peakV g cs, g (peakV g cs).1 (peakV g cs).2)
theorem pkS_snoc (g : Int → Int → Int) (cs : List (Int × Int)) (x : Int × Int) (hx : 0 ≤ g x.1 x.2) : pkS g (cs ++ [x]) = if (pkS g cs).2 < g x.1 x.2 then (x, g x.1 x.2) else pkS g cs := by
  unfold pkS
  rw [if_neg (by simp)]
  by_cases h : cs = []
  · subst h
    rw [if_pos rfl, if_pos (by show (-1 : Int) < _; omega)]
    simp [peakV_one]
  · rw [if_neg h, peakV_snoc g h]
    show _ = if g (peakV g cs).1 (peakV g cs).2 < g x.1 x.2 then _ else _
    split <;> rfl

set_option maxRecDepth 100000 in
set_option maxHeartbeats 8000000 in
theorem areaLoop6 (l : List Sc) (A : Option Addr) (c B : Nat) {Z : World} {q p N BP : Nat} {P : List (Int × Int)} {F : List Int} {A5 : Option Addr} {c5 : Nat} (hl : ScOk l A B Z) (hB : B ≤ q) (HG : Hid (∀ s ∈ l, ScGood s)) (hP : Row Z BP 2 A5 P.length (cellsC P)) (hBP : BP ≤ q) (HPB : Hid (∀ x ∈ P, (-1000000 ≤ x.1 ∧ x.1 ≤ 1000000) ∧ (-1000000 ≤ x.2 ∧ x.2 ≤ 1000000) ∧ 0 ≤ atV l x.1 x.2)) (hPl : P.length ≤ 4000) (hp : p < q) (HF : Hid (∀ (k : Nat) f, F[k]? = some f → Z.cell? ⟨p, k, none⟩ = some (.int .i64 f))) (hFN : F.length = P.length) (hN : N = P.length) (b13 : Blk Z q 91 #[.slice none 0 0, .int .i64 0, .int .i64 0, .int .i64 (-1)]) {i : Nat} (hi : i ≤ P.length) (HN0 : Hid (cellsOf P F i i = [])) {t1 t2 t3 t4 t7 t8 t9 t10 t11 t15 t16 t17 t18 t19 t20 t21 t22 t23 t24 t25 t26 t27 t28 t29 t30 t31 t32 t33 t34 t35 t36 t37 t38 t39 t40 t41 t42 t43 t44 t45 t46 t47 t48 t49 t50 t51 t52 t53 t54 t55 t56 t57 t58 t59 t60 t61 t62 t63 t64 t65 t66 t67 t68 t69 t70 t71 t72 t73 t74 t75 t76 t77 t78 t79 t80 t81 t82 t83 t84 t85 t86 t87 t88 t89 t90 t91 t92 t93 t94 t95 t96 t97 t98 t99 t100 t101 t102 t103 t104 t105 t106 t107 t108 t109 t110 t111 t112 t113 t114 t115 t116 t117 t118 t119 t120 t121 t122 t123 t124 t125 t126 t127 t128 t129 t130 t131 t132 t133 t134 t135 t136 t137 t138 t139 t140 t141 t142 t143 t144 t145 t146 t147 : Value} {ds : List Deferred} (Q' : Exit → Act → World → Prop)
    (h : ∀ (t14 t15 t105 t106 t107 t108 t109 t110 t111 t112 t113 t114 t115 t116 t117 t118 t119 t120 t121 t122 t123 t124 t125 t126 t127 t128 t129 t130 t131 t132 t133 t134 t135 t136 t137 t138 t139 t140 t141 t142 : Value) (u : Value) (w' : World), Below q Z w' → Blk w' q 91 #[u, .int .i64 (pkS (atV l) (cellsOf P F i P.length)).1.1, .int .i64 (pkS (atV l) (cellsOf P F i P.length)).1.2, .int .i64 (pkS (atV l) (cellsOf P F i P.length)).2] → w'.ownsRow q 25 2 u (cellsOf P F i P.length).length (cellsC (cellsOf P F i P.length)) → Q' (.exit 10) ⟨#[.slice A l.length c, t1, t2, t3, t4, .slice A5 P.length c5, .slice (some ⟨p, 0, none⟩) N N, t7, t8, t9, t10, t11, .int .i64 (i : Int), .pointer (some ⟨q, 0, none⟩), t14, t15, t16, t17, t18, t19, t20, t21, t22, t23, t24, t25, t26, t27, t28, t29, t30, t31, t32, t33, t34, t35, t36, t37, t38, t39, t40, t41, t42, t43, t44, t45, t46, t47, t48, t49, t50, t51, t52, t53, t54, t55, t56, t57, t58, t59, t60, t61, t62, t63, t64, t65, t66, t67, t68, t69, t70, t71, t72, t73, t74, t75, t76, t77, t78, t79, t80, t81, t82, t83, t84, t85, t86, t87, t88, t89, t90, t91, t92, t93, t94, t95, t96, t97, t98, t99, t100, t101, t102, t103, t104, t105, t106, t107, t108, t109, t110, t111, t112, t113, t114, t115, t116, t117, t118, t119, t120, t121, t122, t123, t124, t125, t126, t127, t128, t129, t130, t131, t132, t133, t134, t135, t136, t137, t138, t139, t140, t141, t142, t143, t144, t145, t146, t147], ds⟩ w') :
    (Code.loop (bodyOf Tryz.f65 5)).wp Tryz.prog Q' ⟨#[.slice A l.length c, t1, t2, t3, t4, .slice A5 P.length c5, .slice (some ⟨p, 0, none⟩) N N, t7, t8, t9, t10, t11, .int .i64 (i : Int), .pointer (some ⟨q, 0, none⟩), .int .i64 (i : Int), t15, t16, t17, t18, t19, t20, t21, t22, t23, t24, t25, t26, t27, t28, t29, t30, t31, t32, t33, t34, t35, t36, t37, t38, t39, t40, t41, t42, t43, t44, t45, t46, t47, t48, t49, t50, t51, t52, t53, t54, t55, t56, t57, t58, t59, t60, t61, t62, t63, t64, t65, t66, t67, t68, t69, t70, t71, t72, t73, t74, t75, t76, t77, t78, t79, t80, t81, t82, t83, t84, t85, t86, t87, t88, t89, t90, t91, t92, t93, t94, t95, t96, t97, t98, t99, t100, t101, t102, t103, t104, t105, t106, t107, t108, t109, t110, t111, t112, t113, t114, t115, t116, t117, t118, t119, t120, t121, t122, t123, t124, t125, t126, t127, t128, t129, t130, t131, t132, t133, t134, t135, t136, t137, t138, t139, t140, t141, t142, t143, t144, t145, t146, t147], ds⟩ Z := by
  have H := Lib.hid h; clear h
  subst hN
  have HFN := Lib.hid hFN; clear hFN
  have hpk0 : pkS (atV l) [] = ((0, 0), -1) := rfl
  conv in (bodyOf _ _) => whnf
  dsimp only
  go_loopw [14] (fun s14 wr => ∃ (k : Nat) (cs : List (Int × Int)) (u : Value) (pk : (Int × Int) × Int), i ≤ k ∧ k ≤ P.length ∧ s14 = .int .i64 k ∧ Hid (cs = cellsOf P F i k ∧ pk = pkS (atV l) cs ∧ cs.length ≤ k) ∧ Blk wr q 91 #[u, .int .i64 pk.1.1, .int .i64 pk.1.2, .int .i64 pk.2] ∧ wr.ownsRow q 25 2 u cs.length (cellsC cs) ∧ Below q Z wr) (fun s14 _ => P.length - (intOf s14).toNat)
  case atStart => exact ⟨i, [], _, ((0, 0), -1), Nat.le_refl _, hi, rfl, Lib.hid ⟨HN0.out.symm, rfl, by simp⟩, b13, World.ownsRow_nil _ _ _ _, Below.refl _ _⟩
  case round =>
    clear b13
    obtain ⟨k, cs, u, pk, hik, hk, rfl, HC, b13, own, hx⟩ := hrel
    have hzx := Below.size hx
    have l13 := b13.lt
    by_cases hlt : k < P.length
    · obtain ⟨f, hf⟩ : ∃ f, F[k]? = some f := ⟨F[k]'(by rw [HFN.out]; exact hlt), List.getElem?_eq_getElem _⟩
      obtain ⟨g5, o5, hA5, hg5, x0, x1⟩ := cellPair (hP.below hx hBP) hlt
      have hpx : P[k]? = some P[k] := List.getElem?_eq_getElem hlt
      have HSU := Lib.hid (cellsOf_succ (j := i) hf hpx)
      have HPX := Lib.hid (HPB.out _ (List.getElem_mem hlt))
      have f0 := (hx.cell (p := ⟨p, k, none⟩) hp).trans (HF.out k f hf)
      clear hf hpx
      generalize P[k] = x at *
      subst hA5
      have i1 : ((k : Int) < (P.length : Int)) := by omega
      have lp : p < wr.heap.size := by omega
      have lg5 : g5 < wr.heap.size := by omega
      by_cases hfi : f = (i : Int)
      · have HCS : Hid (cs ++ [x] = cellsOf P F i (k + 1)) := Lib.hid (by rw [HSU.out, if_pos hfi, HC.out.1])
        rw [hfi] at f0
        have hff : ((i : Int) == (i : Int)) = true := by simp
        clear hfi HSU
        have hcl : cs.length ≤ 100000 := by have := HC.out.2.2; omega
        go_upto_region 28 with fail
        refine areaReg28 b13 own x0 x1 (by omega) hlt hcl _ ?_
        intro t117 t118 t119 t120 t121 t122 t123 t124 t125 u2 w28 hB28 b28 own28
        try dsimp only
        have hx2 := hx.trans hB28
        obtain ⟨q1, q2, q3⟩ := HPX.out
        have x0' := (hB28.cell (p := ⟨g5, o5 + k * 2, none⟩) (show g5 < q by omega)).trans x0
        have x1' := (hB28.cell (p := ⟨g5, o5 + k * 2 + 1, none⟩) (show g5 < q by omega)).trans x1
        have hz28 := Below.size hx2
        have l28 := b28.lt
        have lg5' : g5 < w28.heap.size := by omega
        clear x0 x1 f0 b13 own hB28 l13 lg5 lp hx hzx
        go_wp2_with fail
        refine (refAt_any l A c B x.1 x.2 _ (hl.below hx2 hB) (by have := b28.lt; omega) HG q1 q2).mono ?_
        rintro e w29 ⟨rfl, hB29⟩
        have b29 := b28.gr hB29
        have own29 := own_below own28 hB29
        have hx3 := hx2.trans (hB29.mono (by have := b28.lt; omega))
        have x0'' := (hB29.cell (p := ⟨g5, o5 + k * 2, none⟩) lg5').trans x0'
        have x1'' := (hB29.cell (p := ⟨g5, o5 + k * 2 + 1, none⟩) lg5').trans x1'
        have lg5'' : g5 < w29.heap.size := by have := Below.size hB29; omega
        obtain ⟨y0, y1, y2, y3, yf⟩ := blk4 b29
        have l29 := b29.lt
        have HPS := Lib.hid (pkS_snoc (atV l) cs x q3)
        have hgq : g5 ≠ q := by omega
        clear l28 x0' x1' b28 own28 hx2 hB29 lg5' hz28
        obtain ⟨G, hGe⟩ : ∃ G, atV l x.1 x.2 = G := ⟨_, rfl⟩
        have HGE := Lib.hid hGe
        rw [hGe] at HPS ⊢
        clear hGe q3
        obtain ⟨pp, lv⟩ := pk
        obtain ⟨pr, pc⟩ := pp
        dsimp only at y0 y1 y2 y3 b29
        have hpe : pkS (atV l) cs = ((pr, pc), lv) := HC.out.2.1.symm
        rw [hpe] at HPS
        have hcl2 : (cs ++ [x]).length ≤ k + 1 := by have := HC.out.2.2; simp; omega
        have HCL := Lib.hid hcl2
        clear hpe hcl2 hcl
        have own30 : w29.ownsRow q 25 2 u2 (cs ++ [x]).length (cellsC (cs ++ [x])) := by simpa using own29
        by_cases hbig : lv < G
        · have HPK : Hid ((x, G) = pkS (atV l) (cs ++ [x])) := Lib.hid (by rw [HPS.out, if_pos hbig])
          clear HPS own29
          go_wp2
          have b31 := ((b29.set_ 1 (.int .i64 x.1)).set_ 2 (.int .i64 x.2)).set_ 3 (.int .i64 G)
          have own31 := ((own30.kept (only_setCell (World.grownBy.refl w29 (some q)) (p := ⟨q, 1, none⟩) (.inl rfl) (.int .i64 x.1)) (.inr (own_blk_ne own30 b29 (by decide)))))
          have own32 := own31.kept (only_setCell (World.grownBy.refl _ (some q)) (p := ⟨q, 2, none⟩) (.inl rfl) (.int .i64 x.2)) (.inr (own_blk_ne own30 b29 (by decide)))
          have own33 := own32.kept (only_setCell (World.grownBy.refl _ (some q)) (p := ⟨q, 3, none⟩) (.inl rfl) (.int .i64 G)) (.inr (own_blk_ne own30 b29 (by decide)))
          exact ⟨⟨k + 1, _, u2, (x, G), by omega, by omega, by go_num, Lib.hid ⟨HCS.out, HPK.out, HCL.out⟩, b31, own33, ((hx3.setCell (p := ⟨q, 1, none⟩) (Nat.le_refl q) _).setCell (p := ⟨q, 2, none⟩) (Nat.le_refl q) _).setCell (p := ⟨q, 3, none⟩) (Nat.le_refl q) _⟩, by simp [intOf]; omega⟩
        · have HPK : Hid (((pr, pc), lv) = pkS (atV l) (cs ++ [x])) := Lib.hid (by rw [HPS.out, if_neg hbig])
          clear HPS own29
          go_wp2
          exact ⟨⟨k + 1, _, u2, ((pr, pc), lv), by omega, by omega, by go_num, Lib.hid ⟨HCS.out, HPK.out, HCL.out⟩, b29, own30, hx3⟩, by simp [intOf]; omega⟩
      · have HCS : Hid (cs = cellsOf P F i (k + 1)) := Lib.hid (by rw [HSU.out, if_neg hfi, HC.out.1])
        have hff : (f == (i : Int)) = false := beq_eq_false_iff_ne.2 hfi
        clear hfi HSU
        go_wp2
        exact ⟨⟨k + 1, cs, u, pk, by omega, by omega, by go_num, Lib.hid ⟨HCS.out, HC.out.2.1, by have := HC.out.2.2; omega⟩, b13, own, hx⟩, by simp [intOf]; omega⟩
    · obtain rfl : k = P.length := by omega
      obtain ⟨hc1, hc2, _⟩ := HC.out
      subst hc1
      subst hc2
      go_wp2
      exact H.out _ _ _ _ _ _ _ _ _ _ _ _ _ _ _ _ _ _ _ _ _ _ _ _ _ _ _ _ _ _ _ _ _ _ _ _ _ _ _ _ u wr hx b13 own
end Go.Proofs.YtidgeagpgllkeaaGreat

namespace Go.Proofs.YtidgeagpgllkeaaGreat
open Go.RowKit

/-- Labels and areas, in memory. -/
structure RaM (V : World) (p N : Nat) (F : List Int) (g : Int → Int → Int) (As : List ArA) (v : Value) (W : World) : Prop where
  lab : LbM V p N F W
  out : W.ownsRow V.heap.size 91 4 v As.length (cellsA g As)
  rows : ∀ a ∈ As, W.ownsRow V.heap.size 25 2 a.1 a.2.length (cellsC a.2)
section
variable {V W W' : World} {p N : Nat} {F : List Int} {g : Int → Int → Int} {As : List ArA} {v : Value}
theorem RaM.gr (h : RaM V p N F g As v W) (hk : Gr W W') : RaM V p N F g As v W' := ⟨h.lab.gr hk, own_below h.out hk, fun a ha => own_below (h.rows a ha) hk⟩
theorem RaM.add (h : RaM V p N F g As v W) {u : Value} {a : ArA} (ha : W.ownsRow V.heap.size 25 2 a.1 a.2.length (cellsC a.2)) (ho : W'.ownsRow V.heap.size 91 4 u (As.length + 1) (cellsA g As ++ encA g a)) (hg : W.grownBy W' v.ownBlock) : RaM V p N F g (As ++ [a]) u W' := by
  have hlow : ∀ q, v.ownBlock = some q → V.heap.size ≤ q := fun q e => (h.out.lt q e).1
  have hb : Below V.heap.size W W' := (Below.refl _ _).grown hg (Below.size h.lab.below) hlow
  refine ⟨⟨h.lab.own.kept hg (own_two' h.lab.own h.out (by decide)), h.lab.below.trans hb⟩, ?_, fun b hbm => ?_⟩
  · have e : cellsA g (As ++ [a]) = cellsA g As ++ encA g a := by simp [cellsA]
    rw [e]; simpa using ho
  · rcases List.mem_append.1 hbm with hm | hm
    · exact (h.rows b hm).kept hg (own_two' (h.rows b hm) h.out (by decide))
    · obtain rfl : b = a := by simpa using hm
      exact ha.kept hg (own_two' ha h.out (by decide))
end
theorem cellsOf_len (P : List (Int × Int)) (F : List Int) (j m : Nat) : (cellsOf P F j m).length ≤ P.length := by
  unfold cellsOf
  rw [List.length_map]
  refine Nat.le_trans (List.length_filter_le _ _) ?_
  rw [List.length_take, List.length_zip]; omega

set_option maxRecDepth 100000 in
set_option maxHeartbeats 8000000 in
theorem areaLoop5 (l : List Sc) (A : Option Addr) (c B : Nat) {V wr0 : World} {p BP : Nat} {P : List (Int × Int)} {F : List Int} {A5 : Option Addr} {c5 : Nat} {g0 : Int → Int → Int} {level : Int} {corners : Bool} (hl : ScOk l A B V) (hB : B ≤ V.heap.size) (HG : Hid (∀ s ∈ l, ScGood s)) (hP : Row V BP 2 A5 P.length (cellsC P)) (hBP : BP ≤ V.heap.size) (HPB : Hid (∀ x ∈ P, (-1000000 ≤ x.1 ∧ x.1 ≤ 1000000) ∧ (-1000000 ≤ x.2 ∧ x.2 ≤ 1000000) ∧ 0 ≤ atV l x.1 x.2)) (hPl : P.length ≤ 4000) (HLB : Hid (Lab g0 level corners P F)) (M : RaM V p P.length F (atV l) [] (.slice none 0 0) wr0) {t1 t2 t3 t4 t7 t8 t9 t10 t13 t14 t15 t16 t17 t18 t19 t20 t21 t22 t23 t24 t25 t26 t27 t28 t29 t30 t31 t32 t33 t34 t35 t36 t37 t38 t39 t40 t41 t42 t43 t44 t45 t46 t47 t48 t49 t50 t51 t52 t53 t54 t55 t56 t57 t58 t59 t60 t61 t62 t63 t64 t65 t66 t67 t68 t69 t70 t71 t72 t73 t74 t75 t76 t77 t78 t79 t80 t81 t82 t83 t84 t85 t86 t87 t88 t89 t90 t91 t92 t93 t94 t95 t96 t97 t98 t99 t100 t101 t102 t103 t104 t105 t106 t107 t108 t109 t110 t111 t112 t113 t114 t115 t116 t117 t118 t119 t120 t121 t122 t123 t124 t125 t126 t127 t128 t129 t130 t131 t132 t133 t134 t135 t136 t137 t138 t139 t140 t141 t142 t143 t144 t145 t146 t147 : Value} {ds : List Deferred} (Q' : Exit → Act → World → Prop)
    (h : ∀ (t12 t13 t14 t15 t91 t92 t93 t94 t95 t96 t97 t98 t99 t100 t101 t102 t103 t104 t105 t106 t107 t108 t109 t110 t111 t112 t113 t114 t115 t116 t117 t118 t119 t120 t121 t122 t123 t124 t125 t126 t127 t128 t129 t130 t131 t132 t133 t134 t135 t136 t137 t138 t139 t140 t141 t142 t143 t144 t145 t146 : Value) (As : List ArA) (v : Value) (w' : World), As.map (·.2) = areasTo P F P.length → RaM V p P.length F (atV l) As v w' → Q' (.exit 8) ⟨#[.slice A l.length c, t1, t2, t3, t4, .slice A5 P.length c5, .slice (some ⟨p, 0, none⟩) P.length P.length, t7, t8, t9, t10, v, t12, t13, t14, t15, t16, t17, t18, t19, t20, t21, t22, t23, t24, t25, t26, t27, t28, t29, t30, t31, t32, t33, t34, t35, t36, t37, t38, t39, t40, t41, t42, t43, t44, t45, t46, t47, t48, t49, t50, t51, t52, t53, t54, t55, t56, t57, t58, t59, t60, t61, t62, t63, t64, t65, t66, t67, t68, t69, t70, t71, t72, t73, t74, t75, t76, t77, t78, t79, t80, t81, t82, t83, t84, t85, t86, t87, t88, t89, t90, t91, t92, t93, t94, t95, t96, t97, t98, t99, t100, t101, t102, t103, t104, t105, t106, t107, t108, t109, t110, t111, t112, t113, t114, t115, t116, t117, t118, t119, t120, t121, t122, t123, t124, t125, t126, t127, t128, t129, t130, t131, t132, t133, t134, t135, t136, t137, t138, t139, t140, t141, t142, t143, t144, t145, t146, t147], ds⟩ w') :
    (Code.loop (bodyOf Tryz.f65 4)).wp Tryz.prog Q' ⟨#[.slice A l.length c, t1, t2, t3, t4, .slice A5 P.length c5, .slice (some ⟨p, 0, none⟩) P.length P.length, t7, t8, t9, t10, .slice none 0 0, .int .i64 0, t13, t14, t15, t16, t17, t18, t19, t20, t21, t22, t23, t24, t25, t26, t27, t28, t29, t30, t31, t32, t33, t34, t35, t36, t37, t38, t39, t40, t41, t42, t43, t44, t45, t46, t47, t48, t49, t50, t51, t52, t53, t54, t55, t56, t57, t58, t59, t60, t61, t62, t63, t64, t65, t66, t67, t68, t69, t70, t71, t72, t73, t74, t75, t76, t77, t78, t79, t80, t81, t82, t83, t84, t85, t86, t87, t88, t89, t90, t91, t92, t93, t94, t95, t96, t97, t98, t99, t100, t101, t102, t103, t104, t105, t106, t107, t108, t109, t110, t111, t112, t113, t114, t115, t116, t117, t118, t119, t120, t121, t122, t123, t124, t125, t126, t127, t128, t129, t130, t131, t132, t133, t134, t135, t136, t137, t138, t139, t140, t141, t142, t143, t144, t145, t146, t147], ds⟩ wr0 := by
  have H := Lib.hid h; clear h
  obtain ⟨i0, hi0, hz0, hz1, hz2⟩ := info_parts infoArea
  conv in (bodyOf _ _) => whnf
  dsimp only
  go_loopw [11, 12] (fun s11 s12 wr => ∃ (i : Nat) (As : List ArA) (v : Value), i ≤ P.length ∧ v = s11 ∧ s12 = .int .i64 i ∧ Hid (As.map (·.2) = areasTo P F i ∧ As.length ≤ i) ∧ RaM V p P.length F (atV l) As v wr) (fun _ s12 _ => P.length - (intOf s12).toNat)
  case atStart => exact ⟨0, [], _, Nat.zero_le _, rfl, by go_num, Lib.hid ⟨by simp [areasTo, startsTo], by simp⟩, M⟩
  case round =>
    clear M
    obtain ⟨i, As, v, hi, rfl, rfl, HI, M⟩ := hrel
    have hx := M.lab.below
    have hzx := Below.size hx
    have hlen := M.lab.len
    by_cases hlt : i < P.length
    · obtain ⟨f, hf⟩ : ∃ f, F[i]? = some f := ⟨F[i]'(by omega), List.getElem?_eq_getElem _⟩
      have f0 := M.lab.cell hf
      have lp := M.lab.lt
      have i1 : ((i : Int) < (P.length : Int)) := by omega
      have HS := Lib.hid (areasTo_succ (P := P) hf)
      by_cases hfi : f = (i : Int)
      · have HPOS : Hid (cellsOf P F i P.length ≠ []) := Lib.hid (fun e => by
          have : P[i] ∈ cellsOf P F i P.length := (mem_cellsOf (by omega)).2 ⟨i, by rw [hf, hfi], List.getElem?_eq_getElem hlt⟩
          rw [e] at this; cases this)
        have HX : Hid (areasTo P F (i + 1) = areasTo P F i ++ [cellsOf P F i P.length]) := Lib.hid (by rw [HS.out, if_pos hfi])
        rw [hfi] at f0
        have hff : ((i : Int) != (i : Int)) = false := by simp
        have HFC := Lib.hid (fun (k : Nat) (f : Int) (h : F[k]? = some f) => M.lab.cell h)
        have hlen2 := hlen
        clear hfi HS hf hlen
        have b13 := Blk.new wr 91 #[.slice none 0 0, .int .i64 0, .int .i64 0, .int .i64 (-1)]
        have hgA : Gr wr (wr.alloc (.cells #[.slice none 0 0, .int .i64 0, .int .i64 0, .int .i64 (-1)] 91)) := (Below.refl _ _).alloc (Nat.le_refl _) _
        have M2 := M.gr hgA
        have hx2 := M2.lab.below
        have HLN := Lib.hid hlen2; clear hlen2
        have hl6 := fun (Z : World) (hZ : Gr wr Z) (b : Blk Z wr.heap.size 91 #[.slice none 0 0, .int .i64 0, .int .i64 0, .int .i64 (-1)]) => @areaLoop6 l A c B Z wr.heap.size p P.length BP P F A5 c5 (hl.below (hx.trans (hZ.mono hzx)) hB) (by omega) HG (hP.below (hx.trans (hZ.mono hzx)) hBP) (by omega) HPB hPl lp (Lib.hid (fun k f h => (hZ.cell (p := ⟨p, k, none⟩) lp).trans (HFC.out k f h))) HLN.out rfl b i hi (Lib.hid (cellsOf_nil HLB.out i))
        have HL6 := Lib.hid hl6
        clear hl6
        go_wp2
        have hl6 := HL6.out
        unfold bodyOf at hl6
        conv at hl6 in (Option.getD _ Code.skip) => whnf
        refine hl6 _ hgA b13 _ ?_
        clear hl6 HL6 f0 b13 M2 hx2
        intro t14 t15 t105 t106 t107 t108 t109 t110 t111 t112 t113 t114 t115 t116 t117 t118 t119 t120 t121 t122 t123 t124 t125 t126 t127 t128 t129 t130 t131 t132 t133 t134 t135 t136 t137 t138 t139 t140 t141 t142 u w6 hB6 b6 own6
        have hpk : pkS (atV l) (cellsOf P F i P.length) = (peakV (atV l) (cellsOf P F i P.length), atV l (peakV (atV l) (cellsOf P F i P.length)).1 (peakV (atV l) (cellsOf P F i P.length)).2) := if_neg HPOS.out
        rw [hpk] at b6
        dsimp only at b6
        have hcl := cellsOf_len P F i P.length
        have M6 := M.gr (Below.trans hgA hB6)
        have ownA := own_low own6 hzx
        obtain ⟨Au, cu, rfl, _, _, _⟩ := own_row2 own6
        obtain ⟨cs, hcs⟩ : ∃ cs, cellsOf P F i P.length = cs := ⟨_, rfl⟩
        simp only [hcs] at b6 own6 ownA hcl HX
        clear hpk hcs HPOS own6 hB6 hgA M
        have hz6 := Below.size M6.lab.below
        obtain ⟨y0, y1, y2, y3, yf⟩ := blk4 b6
        have l6 := b6.lt
        have hAl : As.length ≤ 4000 := by have := HI.out.2; omega
        have HN : Hid ((As ++ [((.slice Au cs.length cu : Value), cs)]).map (·.2) = areasTo P F (i + 1) ∧ (As ++ [((.slice Au cs.length cu : Value), cs)]).length ≤ i + 1) := Lib.hid ⟨by rw [HX.out, List.map_append, HI.out.1]; rfl, by have := HI.out.2; simp; omega⟩
        go_wp2_with (at_builtin; refine wpList_append_own _ rfl _ _ 31 rfl V.heap.size 91 i0 (.agg #[.slice none 0 0, .int .i64 0, .int .i64 0, .int .i64 0]) 4 48 Tryz.underlying31 hi0 hz0 hz1 hz2 rfl (by decide) v As.length (cellsA (atV l) As) rfl (M6.out.alloc _) ⟨w6.heap.size, 0, none⟩ 1 1 (encA (atV l) (.slice Au cs.length cu, cs)) rfl rfl (cell_arr_new w6 #[.slice Au cs.length cu, .int .i64 (peakV (atV l) cs).1, .int .i64 (peakV (atV l) cs).2, .int .i64 (atV l (peakV (atV l) cs).1 (peakV (atV l) cs).2)] 91) (by simp [encA, Value.oneCell']) (by unfold maxLen; omega) (by omega) (by simp; omega) ?_; intro v2 W7 hown' hgrow _)
        have M7 := (M6.gr ((Below.refl _ _).alloc (Nat.le_refl _) _)).add (a := (.slice Au cs.length cu, cs)) (ownA.alloc _) hown' hgrow
        exact ⟨⟨i + 1, _, v2, by omega, rfl, by go_num, HN, M7⟩, by simp [intOf]; omega⟩
      · have HX : Hid (As.map (·.2) = areasTo P F (i + 1) ∧ As.length ≤ i + 1) := Lib.hid ⟨by rw [HS.out, if_neg hfi]; exact HI.out.1, by have := HI.out.2; omega⟩
        have hff : (f != (i : Int)) = true := by simpa using hfi
        clear hfi HS hf hlen
        go_wp2
        exact ⟨⟨i + 1, As, v, by omega, rfl, by go_num, HX, M⟩, by simp [intOf]; omega⟩
    · obtain rfl : i = P.length := by omega
      clear hlen
      go_wp2
      exact H.out _ _ _ _ _ _ _ _ _ _ _ _ _ _ _ _ _ _ _ _ _ _ _ _ _ _ _ _ _ _ _ _ _ _ _ _ _ _ _ _ _ _ _ _ _ _ _ _ _ _ _ _ _ _ _ _ _ _ _ _ As v wr HI.out.1 M
end Go.Proofs.YtidgeagpgllkeaaGreat
