/- Contract: the areas: the loop over the places. -/
import Derived.Test.YtidgeagpgllkeaaGreatFaZb
namespace Go.Proofs.YtidgeagpgllkeaaGreat
open Go.RowKit Go.Shelf

attribute [local go_sem] Oper.semAt_some
attribute [local irreducible] nbV

/-- The areas of the first i places; each with the place it was found from. -/
structure ArS (g : Int → Int → Int) (level : Int) (corners : Bool) (P : List (Int × Int)) (i : Nat) (Bs : List ((Int × Int) × ArA)) : Prop where
  each : ∀ q ∈ Bs, AreaOk g level corners q.1 q.2.2
  sub : (Bs.map (·.1)).Sublist (P.take i)
  cover : ∀ x ∈ P.take i, ∃ q ∈ Bs, x ∈ q.2.2
  apart : Bs.Pairwise fun a b => b.1 ∉ a.2.2
def doneF (Bs : List ((Int × Int) × ArA)) : Int → Int → Bool := fun x y => Bs.any fun q => decide ((x, y) ∈ q.2.2)
theorem infoArea : (Tryz.prog.info? 91).map (fun i => (i.zero, i.size, i.bytes)) = some (some (.agg #[.slice none 0 0, .int .i64 0, .int .i64 0, .int .i64 0]), 4, 48) := by kernel_rfl
theorem cell_four_new (w : World) (x y z u : Value) (t : TypeId) : ∀ j v, [x, y, z, u][j]? = some v → (w.alloc (.cells #[x, y, z, u] t)).cell? ((⟨w.heap.size, 0, none⟩ : Addr).add j) = some v := by
  intro j v hj
  have hb := Blk.new w t #[x, y, z, u]
  match j, hj with
  | 0, hj => simp at hj; subst hj; exact hb.cell 0
  | 1, hj => simp at hj; subst hj; exact hb.cell 1
  | 2, hj => simp at hj; subst hj; exact hb.cell 2
  | 3, hj => simp at hj; subst hj; exact hb.cell 3
  | k + 4, hj => simp at hj
section
variable {g : Int → Int → Int} {level : Int} {corners : Bool} {P : List (Int × Int)} {i : Nat} {Bs : List ((Int × Int) × ArA)}
theorem doneF_iff (Bs : List ((Int × Int) × ArA)) (x y : Int) : doneF Bs x y = true ↔ ∃ q ∈ Bs, (x, y) ∈ q.2.2 := by simp [doneF]
theorem ArS.nil : ArS g level corners P 0 [] := ⟨by simp, by simp, by simp, by simp⟩
theorem ArS.skip (h : ArS g level corners P i Bs) (hi : i < P.length) (hd : doneF Bs P[i].1 P[i].2 = true) : ArS g level corners P (i + 1) Bs := by
  refine ⟨h.each, ?_, fun x hx => ?_, h.apart⟩
  · rw [List.take_succ_eq_append_getElem hi]
    exact h.sub.trans (List.sublist_append_left _ _)
  · rw [List.take_succ_eq_append_getElem hi, List.mem_append, List.mem_singleton] at hx
    rcases hx with hx | rfl
    · exact h.cover x hx
    · exact (doneF_iff _ _ _).1 hd
theorem ArS.add (h : ArS g level corners P i Bs) (hi : i < P.length) (hd : doneF Bs P[i].1 P[i].2 = false) {v : Value} {cs : List (Int × Int)} (hA : AreaOk g level corners P[i] cs) : ArS g level corners P (i + 1) (Bs ++ [(P[i], (v, cs))]) := by
  refine ⟨fun q hq => ?_, ?_, fun x hx => ?_, ?_⟩
  · rcases List.mem_append.1 hq with hq | hq
    · exact h.each q hq
    · rw [List.mem_singleton] at hq; subst hq; exact hA
  · rw [List.take_succ_eq_append_getElem hi, List.map_append]
    exact h.sub.append (List.Sublist.refl _)
  · rw [List.take_succ_eq_append_getElem hi, List.mem_append, List.mem_singleton] at hx
    rcases hx with hx | rfl
    · obtain ⟨q, hq, hm⟩ := h.cover x hx
      exact ⟨q, List.mem_append_left _ hq, hm⟩
    · exact ⟨_, List.mem_append_right _ (List.mem_singleton.2 rfl), (hA.mem _).2 .refl⟩
  · rw [List.pairwise_append]
    refine ⟨h.apart, by simp, fun a ha b hb => ?_⟩
    rw [List.mem_singleton] at hb; subst hb
    intro hm
    have : doneF Bs P[i].1 P[i].2 = true := (doneF_iff _ _ _).2 ⟨a, ha, hm⟩
    rw [hd] at this; cases this
theorem doneF_add (Bs : List ((Int × Int) × ArA)) (p : Int × Int) (v : Value) (cs : List (Int × Int)) : doneF (Bs ++ [(p, (v, cs))]) = markF (doneF Bs) cs := by
  funext x y; simp [doneF, markF]
end

set_option maxRecDepth 100000 in
set_option maxHeartbeats 4000000 in
theorem areas_round (b n S cap : Nat) (pP : Option Addr) (g : Int → Int → Int) (level : Int) (corners : Bool) (P : List (Int × Int)) (Bs : List ((Int × Int) × ArA)) (vo : Value) (i kk : Nat) (w : World) (hn : n ≤ 100000) (hkn : Hid (∀ x y, 0 ≤ g x y → (-100000 ≤ x ∧ x ≤ 100023) ∧ (-100000 ≤ y ∧ y ≤ 100023))) (hbd : Hid (∀ x y, g x y ≤ 1000000000)) (hPa : Hid (∀ x ∈ P, abv g x.1 x.2 level = true)) (hPl : P.length ≤ 100000) (hi : i ≤ P.length) (hkk : kk ≤ i * n) (hBl : Bs.length ≤ i) (wr : World)
    (hI : AoM w b n S g level corners P (.slice pP P.length cap) (Bs.map (·.2)) vo kk (doneF Bs) wr) (hS : ArS g level corners P i Bs)
    (K' : Act → World → Prop) (Q' : Exit → Act → World → Prop) {t0 t1 t2 t4 t5 t7 t8 t9 t12 t13 t14 t15 t16 t17 t18 t19 t20 t21 t22 t23 t24 t25 t26 t27 t28 t29 t30 t31 t32 t33 t34 t35 t36 t37 t38 t39 t40 t41 t42 t43 t47 t48 t49 t50 t51 t52 t53 t54 t55 t56 t57 t58 t59 t60 t61 t62 t63 t64 t65 t66 t67 t68 t69 t70 t71 t72 : Value}
    (hnext : ∀ (t0 t1 t2 t4 t5 t7 t8 t9 t12 t13 t14 t15 t16 t17 t18 t19 t20 t21 t22 t23 t24 t25 t26 t27 t28 t29 t30 t31 t32 t33 t34 t35 t36 t37 t38 t39 t40 t41 t42 t43 t47 t48 t49 t50 t51 t52 t53 t54 t55 t56 t57 t58 t59 t60 t61 t62 t63 t64 t65 t66 t67 t68 t69 t70 t71 t72 : Value) (Bs : List ((Int × Int) × ArA)) (vo : Value) (kk : Nat) (wr : World), i + 1 ≤ P.length → kk ≤ (i + 1) * n → Bs.length ≤ i + 1 → AoM w b n S g level corners P (.slice pP P.length cap) (Bs.map (·.2)) vo kk (doneF Bs) wr → ArS g level corners P (i + 1) Bs → K' ⟨#[t0, t1, t2, .pointer (some ⟨w.heap.size, 0, none⟩), t4, t5, .map (some b), t7, t8, t9, vo, .map (some S), t12, t13, t14, t15, t16, t17, t18, t19, t20, t21, t22, t23, t24, t25, t26, t27, t28, t29, t30, t31, t32, t33, t34, t35, t36, t37, t38, t39, t40, t41, t42, t43, .slice pP P.length cap, .int .i64 (P.length : Int), .int .i64 ((i + 1 : Nat) : Int), t47, t48, t49, t50, t51, t52, t53, t54, t55, t56, t57, t58, t59, t60, t61, t62, t63, t64, t65, t66, t67, t68, t69, t70, t71, t72], []⟩ wr)
    (hexit : ∀ (t0 t1 t2 t4 t5 t7 t8 t9 t12 t13 t14 t15 t16 t17 t18 t19 t20 t21 t22 t23 t24 t25 t26 t27 t28 t29 t30 t31 t32 t33 t34 t35 t36 t37 t38 t39 t40 t41 t42 t43 t47 t48 t49 t50 t51 t52 t53 t54 t55 t56 t57 t58 t59 t60 t61 t62 t63 t64 t65 t66 t67 t68 t69 t70 t71 t72 : Value), i = P.length → Q' (.exit 2) ⟨#[t0, t1, t2, .pointer (some ⟨w.heap.size, 0, none⟩), t4, t5, .map (some b), t7, t8, t9, vo, .map (some S), t12, t13, t14, t15, t16, t17, t18, t19, t20, t21, t22, t23, t24, t25, t26, t27, t28, t29, t30, t31, t32, t33, t34, t35, t36, t37, t38, t39, t40, t41, t42, t43, .slice pP P.length cap, .int .i64 (P.length : Int), .int .i64 (i : Int), t47, t48, t49, t50, t51, t52, t53, t54, t55, t56, t57, t58, t59, t60, t61, t62, t63, t64, t65, t66, t67, t68, t69, t70, t71, t72], []⟩ wr) :
    (bodyOf Tryz.f22 1).wp Tryz.prog (Exit.then K' Q') ⟨#[t0, t1, t2, .pointer (some ⟨w.heap.size, 0, none⟩), t4, t5, .map (some b), t7, t8, t9, vo, .map (some S), t12, t13, t14, t15, t16, t17, t18, t19, t20, t21, t22, t23, t24, t25, t26, t27, t28, t29, t30, t31, t32, t33, t34, t35, t36, t37, t38, t39, t40, t41, t42, t43, .slice pP P.length cap, .int .i64 (P.length : Int), .int .i64 (i : Int), t47, t48, t49, t50, t51, t52, t53, t54, t55, t56, t57, t58, t59, t60, t61, t62, t63, t64, t65, t66, t67, t68, t69, t70, t71, t72], []⟩ wr := by
  have HK1 : Hid (kk ≤ (i + 1) * n) := Lib.hid (Nat.le_trans hkk (Nat.mul_le_mul_right n (Nat.le_succ i)))
  have HK3 : Hid (∀ m, m ≤ n → kk + m ≤ (i + 1) * n) := Lib.hid (fun m hm => by rw [Nat.succ_mul]; exact Nat.add_le_add hkk hm)
  have HKB : Hid (kk ≤ 100000000000) := Lib.hid (Nat.le_trans hkk (Nat.le_trans (Nat.mul_le_mul (Nat.le_trans hi hPl) hn) (by decide)))
  have HK2' : Hid (Bs.length ≤ i) := Lib.hid hBl
  have HK2 : Hid (Bs.length ≤ i + 1) := Lib.hid (by omega)
  have HN := Lib.hid hnext; have HX := Lib.hid hexit
  clear hnext hexit
  conv in (bodyOf _ _) => whnf
  by_cases hlt : i < P.length
  · obtain ⟨G, cap', hv, _, _⟩ := hI.rowP.form (by omega)
    obtain ⟨rfl, rfl⟩ : pP = some ⟨G, 0, none⟩ ∧ cap = cap' := by injection hv with h1 h2 h3; exact ⟨h1, h3⟩
    clear hv
    obtain ⟨p0, p1⟩ := rowCell hI.rowP hlt
    have ha := hPa.out _ (List.getElem_mem hlt)
    have HSK := Lib.hid (fun hd => hS.skip hlt hd)
    have HAD := Lib.hid (fun hd v cs hA => hS.add hlt hd (v := v) (cs := cs) hA)
    obtain ⟨x, hx⟩ : ∃ x, P[i] = x := ⟨_, rfl⟩
    rw [hx] at p0 p1 ha HSK HAD
    clear hx hS
    have HA := Lib.hid ha; clear ha
    obtain ⟨gp, _⟩ := (abv_iff _ _ _ _).1 HA.out
    obtain ⟨hr, hc⟩ := hkn.out _ _ gp
    have wx : W64 x.1 := by unfold W64; omega
    have wy : W64 x.2 := by unfold W64; omega
    clear gp hr hc
    have hI1 := hI.alloc (.cells #[.int .i64 x.1, .int .i64 x.2] 25)
    have hlk := hI1.hS.look Tryz.underlying153 wx wy
    have bx := Blk.new wr 25 #[.int .i64 x.1, .int .i64 x.2]
    have e3 := hI.b3; have l3 := e3.lt
    obtain ⟨c30, c31, _⟩ := blk2c e3
    have HI1 := Lib.hid hI1
    clear hI hI1
    cases hd : doneF Bs x.1 x.2
    · rw [hd] at hlk
      have HD := Lib.hid hd; clear hd
      go_wp2_with (go_at_call 90; refine (area_any b n g level corners x.1 x.2 _ HI1.out.hM hn hkn hbd HA.out).mono ?_; rintro e w2 ⟨va, cs, rfl, hAo, hra, hB2⟩; refine RowKit.Hid.out ?_)
      refine Lib.hid ?_
      have hsz : (wr.alloc (.cells #[.int .i64 x.1, .int .i64 x.2] 25)).heap.size = wr.heap.size + 1 := by simp
      have hb0 := Below.size HI1.out.below
      have hra0 := own_low hra hb0
      have HI2 := HI1.out.gr hB2
      have hAc : AreaOk g level corners x cs := hAo
      have hpos : 0 < cs.length := List.length_pos_of_mem ((hAc.mem x).2 .refl)
      obtain ⟨G2, cap2, rfl, hG2, hGl2⟩ := hra.form hpos
      have hcs : ∀ y ∈ cs, 0 ≤ g y.1 y.2 ∧ W64 y.1 ∧ W64 y.2 := fun y hy => by
        obtain ⟨gx, _⟩ := (abv_iff _ _ _ _).1 (((hAc.mem y).1 hy).abv HA.out)
        obtain ⟨a1, a2⟩ := hkn.out _ _ gx
        exact ⟨gx, by unfold W64; omega, by unfold W64; omega⟩
      have hcl : cs.length ≤ n := HI2.hM.count hAc.nodup hcs
      have HC : Hid (∀ y ∈ cs, W64 y.1 ∧ W64 y.2) := Lib.hid (fun y hy => (hcs y hy).2)
      have h14 : Blk (w2.alloc (.cells #[.slice (some ⟨G2, 0, none⟩) cs.length cap2, .int .i64 (peakV g cs).1, .int .i64 (peakV g cs).2, .int .i64 (g (peakV g cs).1 (peakV g cs).2)] 91)) w2.heap.size 91 (encA g (.slice (some ⟨G2, 0, none⟩) cs.length cap2, cs)).toArray := Blk.new _ _ _
      have HI3 := Lib.hid (HI2.alloc (.cells #[.slice (some ⟨G2, 0, none⟩) cs.length cap2, .int .i64 (peakV g cs).1, .int .i64 (peakV g cs).2, .int .i64 (g (peakV g cs).1 (peakV g cs).2)] 91))
      have HRA := Lib.hid (own_below hra0 ((Below.refl w2.heap.size w2).alloc (Nat.le_refl _) (.cells #[.slice (some ⟨G2, 0, none⟩) cs.length cap2, .int .i64 (peakV g cs).1, .int .i64 (peakV g cs).2, .int .i64 (g (peakV g cs).1 (peakV g cs).2)] 91)))
      have H14 := Lib.hid h14
      have HAC := Lib.hid hAc
      clear HI2 hra hra0 hAo hAc hcs h14 hB2 hsz hb0 hG2 hGl2 hpos HI1 hlk bx e3 l3 c30 c31
      have HK5 := Lib.hid (HK3.out _ hcl)
      clear hkk
      go_wp2_with fail
      have hl := mark_loop b n S w2.heap.size G2 cap2 g level corners P cs (.slice (some ⟨G, 0, none⟩) P.length cap) vo (Bs.map (·.2)) i kk (doneF Bs) w HC (by omega) HKB.out
      unfold bodyOf at hl
      conv at hl in (Option.getD _ Code.skip) => whnf
      refine hl _ ?_ _ HI3.out HRA.out H14.out
      clear hl HI3 HRA H14
      intro t0 t1 t2 t4 t5 t7 t8 t9 t12 t13 t15 t16 t17 t18 t19 t20 t21 t22 t23 t24 t25 t26 t27 t28 t29 t30 t31 t32 t33 t34 t35 t36 t37 t38 t39 t40 t41 t42 t43 t47 t48 t49 t50 t51 t52 t53 t54 t55 t56 t57 t61 t62 t63 t64 t65 t66 t67 t68 t69 t70 t71 t72 w3 hI3 hA3 h143
      have h144 : Blk w3 w2.heap.size 91 #[.slice (some ⟨G2, 0, none⟩) cs.length cap2, .int .i64 (peakV g cs).1, .int .i64 (peakV g cs).2, .int .i64 (g (peakV g cs).1 (peakV g cs).2)] := h143
      have l144 := h144.lt
      obtain ⟨k0, k1, k2, k3, kf⟩ := blk4 h144
      obtain ⟨i0, hi0, hz0, hz1, hz2⟩ := info_parts infoArea
      have HI3 := Lib.hid hI3; have HA3 := Lib.hid hA3
      have hBn : (Bs.map (·.2)).length ≤ 100000 := by rw [List.length_map]; omega
      clear hI3 hA3 h143 h144
      go_wp2_with (at_builtin; refine wpList_append_own _ rfl _ _ 31 rfl w.heap.size 91 i0 (.agg #[.slice none 0 0, .int .i64 0, .int .i64 0, .int .i64 0]) 4 48 Tryz.underlying31 hi0 hz0 hz1 hz2 rfl (by decide) _ _ _ rfl (HI3.out.rowO.alloc _) ⟨w3.heap.size, 0, none⟩ 1 1 [.slice (some ⟨G2, 0, none⟩) cs.length cap2, .int .i64 (peakV g cs).1, .int .i64 (peakV g cs).2, .int .i64 (g (peakV g cs).1 (peakV g cs).2)] rfl rfl (cell_four_new _ _ _ _ _ _) (by simp [Value.oneCell']) (by unfold maxLen; omega) (by omega) (by have := Below.size HI3.out.below; simp; omega) ?_; intro v2 W5 hown' hgrow _; obtain ⟨g5, cap5, rfl⟩ := ownsRow_succ hown'; have hJ5 := (HI3.out.alloc (.cells #[.slice (some ⟨G2, 0, none⟩) cs.length cap2, .int .i64 (peakV g cs).1, .int .i64 (peakV g cs).2, .int .i64 (g (peakV g cs).1 (peakV g cs).2)] 91)).append (a := (.slice (some ⟨G2, 0, none⟩) cs.length cap2, cs)) (own_below HA3.out ((Below.refl _ _).alloc (Nat.le_refl _) _)) hgrow hown')
      exact HN.out _ _ _ _ _ _ _ _ _ _ _ _ _ _ _ _ _ _ _ _ _ _ _ _ _ _ _ _ _ _ _ _ _ _ _ _ _ _ _ _ _ _ _ _ _ _ _ _ _ _ _ _ _ _ _ _ _ _ _ _ _ _ _ _ _ _ (Bs ++ [(x, (.slice (some ⟨G2, 0, none⟩) cs.length cap2, cs))]) _ (kk + cs.length) _ hlt HK5.out (by simp; exact HK2'.out) (by rw [List.map_append, doneF_add]; rw [List.length_map] at hJ5; exact hJ5) (HAD.out HD.out _ cs HAC.out)
    · rw [hd] at hlk
      have HD := Lib.hid hd; clear hd
      go_wp2_with fail
      exact HN.out _ _ _ _ _ _ _ _ _ _ _ _ _ _ _ _ _ _ _ _ _ _ _ _ _ _ _ _ _ _ _ _ _ _ _ _ _ _ _ _ _ _ _ _ _ _ _ _ _ _ _ _ _ _ _ _ _ _ _ _ _ _ _ _ _ _ Bs vo kk _ hlt HK1.out HK2.out HI1.out (HSK.out HD.out)
  · obtain rfl : i = P.length := by omega
    clear hI hS
    go_wp2
    exact HX.out _ _ _ _ _ _ _ _ _ _ _ _ _ _ _ _ _ _ _ _ _ _ _ _ _ _ _ _ _ _ _ _ _ _ _ _ _ _ _ _ _ _ _ _ _ _ _ _ _ _ _ _ _ _ _ _ _ _ _ _ _ _ _ _ _ _ trivial
end Go.Proofs.YtidgeagpgllkeaaGreat
