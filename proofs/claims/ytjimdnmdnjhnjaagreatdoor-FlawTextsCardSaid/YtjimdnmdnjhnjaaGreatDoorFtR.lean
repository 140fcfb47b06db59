/- flaw.ParseMark: the region that tests a word (a theorem of its own). -/
import Derived.Test.YtjimdnmdnjhnjaaGreatDoorFtB
import Derived.IntWalk
namespace Go.Proofs.YtjimdnmdnjhnjaaGreatDoor
open Go.RowKit Go.Lib

theorem blk_put6 {w : World} {g t : Nat} {v0 v1 v2 v3 v4 v5 : Value} (h : Blk w g t #[v0, v1, v2, v3, v4, v5]) (u0 u1 u2 u3 u4 u5 : Value) :
    Blk ((((((w.setCell ⟨g, 0, none⟩ u0).setCell ⟨g, 1, none⟩ u1).setCell ⟨g, 2, none⟩ u2).setCell ⟨g, 3, none⟩ u3).setCell ⟨g, 4, none⟩ u4).setCell ⟨g, 5, none⟩ u5) g t #[u0, u1, u2, u3, u4, u5] :=
  (((((h.set_ 0 u0).set_ 1 u1).set_ 2 u2).set_ 3 u3).set_ 4 u4).set_ 5 u5
theorem set6_below {B : Nat} {a w : World} {g : Nat} (h : Below B a w) (hg : B ≤ g) (u0 u1 u2 u3 u4 u5 : Value) :
    Below B a ((((((w.setCell ⟨g, 0, none⟩ u0).setCell ⟨g, 1, none⟩ u1).setCell ⟨g, 2, none⟩ u2).setCell ⟨g, 3, none⟩ u3).setCell ⟨g, 4, none⟩ u4).setCell ⟨g, 5, none⟩ u5) :=
  (((((h.setCell (by simpa using hg) u0).setCell (by simpa using hg) u1).setCell (by simpa using hg) u2).setCell (by simpa using hg) u3).setCell (by simpa using hg) u4).setCell (by simpa using hg) u5
set_option maxRecDepth 100000 in
set_option maxHeartbeats 4000000 in
/-- A word that strconv.Atoi takes (region 10). -/
theorem parReg10 {W : World} {g1 k : Nat} (hk : k < 5) {x y tr : ByteArray} (v : Int) (cx : W.cell? ⟨g1, k + 1, none⟩ = some (.string x)) (lt1 : g1 < W.heap.size)
    (HIT : Hid (∀ W', Below W.heap.size W W' → Calls Tryz.prog 19 #[.int .i64 v] W' fun e w' => e = .returned (.string y) ∧ Below W'.heap.size W' w'))
    (HTR : Hid (∀ W', Calls Tryz.prog 24 #[.string x, .string ⟨#[45]⟩] W' fun e w' => e = .returned (.string tr) ∧ W' = w')) (hts : tr.size ≤ 1000) (b : Bool) (hb : b = (!(decide (y = x)) || decide (10 < tr.size))) {t0 t1 t2 t3 t5 t6 t8 t11 t12 t13 t14 t15 t16 t17 t18 t19 t20 t21 t22 t23 t24 t25 t26 t27 t28 t29 t30 t31 t32 t33 t34 t35 t36 t37 t38 t39 t40 t41 t42 t43 t44 t45 t46 t47 t48 t49 t50 t51 t52 t53 t54 t55 t56 t57 t58 t59 t60 t61 t62 t63 t64 t65 t66 t67 t68 t69 t70 t71 t72 t73 t74 t75 : Value} {ds : List Deferred} (K' : Act → World → Prop) (Q' : Exit → Act → World → Prop)
    (h : ∀ (t42 t43 t44 t45 t46 t47 t48 t49 t50 t51 t52 t53 t54 t55 t56 t57 t58 t59 t60 t61 t62 : Value) (w' : World), Gr W w' → K' ⟨#[t0, t1, t2, t3, .slice (some ⟨g1, 0, none⟩) 6 6, t5, t6, .int .i64 k, t8, .int .i64 v, .nilIface, t11, t12, t13, t14, t15, t16, t17, t18, t19, t20, t21, t22, t23, t24, t25, t26, t27, t28, t29, t30, t31, t32, t33, t34, t35, t36, t37, t38, t39, t40, t41, t42, t43, t44, t45, t46, t47, t48, t49, t50, t51, t52, t53, t54, t55, t56, t57, t58, t59, t60, t61, t62, .bool b, t64, t65, t66, t67, t68, t69, t70, t71, t72, t73, t74, t75], ds⟩ w') :
    (regOf Tryz.f6 10).wp Tryz.prog (Exit.then K' Q') ⟨#[t0, t1, t2, t3, .slice (some ⟨g1, 0, none⟩) 6 6, t5, t6, .int .i64 k, t8, .int .i64 v, .nilIface, t11, t12, t13, t14, t15, t16, t17, t18, t19, t20, t21, t22, t23, t24, t25, t26, t27, t28, t29, t30, t31, t32, t33, t34, t35, t36, t37, t38, t39, t40, t41, t42, t43, t44, t45, t46, t47, t48, t49, t50, t51, t52, t53, t54, t55, t56, t57, t58, t59, t60, t61, t62, t63, t64, t65, t66, t67, t68, t69, t70, t71, t72, t73, t74, t75], ds⟩ W := by
  have H := Lib.hid h; clear h
  have kw : IntKind.i64.wrap ((k : Int) + 1) = (k : Int) + 1 := IntWalk.i64_in _ (by omega)
  have k0 : (0 : Int) ≤ (k : Int) + 1 := by omega
  have k5 : (k : Int) + 1 < 6 := by omega
  have kn : ((k : Int) + 1).toNat = k + 1 := by omega
  have hB0 : Below W.heap.size W W := Below.refl _ _
  have hti : ∀ a b : ByteArray, a.toList = b.toList → a = b := fun a b e => by
    rw [toList_data, toList_data] at e
    exact ByteArray.ext (Array.toList_inj.1 e)
  by_cases hyx : y = x
  · have hyl : (y.toList == x.toList) = true := by rw [hyx]; simp
    rw [decide_eq_true hyx] at hb
    clear hyx hti
    by_cases h10 : 10 < tr.size
    · have hE : b = true := by rw [hb, decide_eq_true h10]; rfl
      have g10 : decide ((10 : Int) < (tr.size : Int)) = true := by rw [decide_eq_true_eq]; omega
      subst hE
      clear hb
      conv in (regOf _ _) => whnf
      refine wp_region_b 22 (by kernel_rfl) (by kernel_rfl) ?_; simp only [List.take, List.drop]
      repeat (first
        | (apply StepsD.run
           · go_simp
             done
           · intro w' hS K hK
             have hc := (bcell hS).1
             have hf := (bcell hS).2
             have hz := hS.size
             try simp at hz
             go_simp
             try go_bits
             first
               | exact hK _ hS
               | (go_at_call 19; (refine (HIT.out _ hS).mono ?_); rintro e w1 ⟨rfl, hB1⟩; obtain ⟨hc1, hf1⟩ := bcell hB1; have hz1 := hB1.size; (try simp at hz1); exact hK _ (Below.trans hS (Below.mono hB1 (by first | exact Nat.le_refl _ | (simp; done) | (simp; omega) | omega))))
               | (go_at_call 24; (refine (HTR.out _).mono ?_); rintro e w1 ⟨rfl, rfl⟩; exact hK _ hS)
               | exact hK _ (by repeat (first | (with_reducible exact Below.refl _ _) | (with_reducible assumption) | ((with_reducible refine Below.setCell ?_ ?_ _); rotate_left; · (first | exact Nat.le_refl _ | (simp; done) | (simp; omega) | omega)) | ((with_reducible refine Below.alloc ?_ ?_ _); rotate_left; · (first | exact Nat.le_refl _ | (simp; done) | (simp; omega) | omega)) | (with_reducible apply Below.drew) | (with_reducible apply below_drewN') | (refine Below.trans ?_ (Below.mono (by assumption) (by first | exact Nat.le_refl _ | (simp; done) | (simp; omega) | omega))) | exact Below.refl _ _ | assumption))
           · simp [Act.put]
             done)
        | (apply StepsD.pass
           · go_simp
             done
           · simp only [Act.put, List.setIfInBounds_toArray, List.set_cons_succ, List.set_cons_zero]
             rfl))
      refine StepsD.done ?_
      intro w9 hS9
      exact H.out _ _ _ _ _ _ _ _ _ _ _ _ _ _ _ _ _ _ _ _ _ w9 hS9
    · have hE : b = false := by rw [hb, decide_eq_false h10]; rfl
      have g10 : decide ((10 : Int) < (tr.size : Int)) = false := by rw [decide_eq_false_iff_not]; omega
      subst hE
      clear hb
      conv in (regOf _ _) => whnf
      refine wp_region_b 22 (by kernel_rfl) (by kernel_rfl) ?_; simp only [List.take, List.drop]
      repeat (first
        | (apply StepsD.run
           · go_simp
             done
           · intro w' hS K hK
             have hc := (bcell hS).1
             have hf := (bcell hS).2
             have hz := hS.size
             try simp at hz
             go_simp
             try go_bits
             first
               | exact hK _ hS
               | (go_at_call 19; (refine (HIT.out _ hS).mono ?_); rintro e w1 ⟨rfl, hB1⟩; obtain ⟨hc1, hf1⟩ := bcell hB1; have hz1 := hB1.size; (try simp at hz1); exact hK _ (Below.trans hS (Below.mono hB1 (by first | exact Nat.le_refl _ | (simp; done) | (simp; omega) | omega))))
               | (go_at_call 24; (refine (HTR.out _).mono ?_); rintro e w1 ⟨rfl, rfl⟩; exact hK _ hS)
               | exact hK _ (by repeat (first | (with_reducible exact Below.refl _ _) | (with_reducible assumption) | ((with_reducible refine Below.setCell ?_ ?_ _); rotate_left; · (first | exact Nat.le_refl _ | (simp; done) | (simp; omega) | omega)) | ((with_reducible refine Below.alloc ?_ ?_ _); rotate_left; · (first | exact Nat.le_refl _ | (simp; done) | (simp; omega) | omega)) | (with_reducible apply Below.drew) | (with_reducible apply below_drewN') | (refine Below.trans ?_ (Below.mono (by assumption) (by first | exact Nat.le_refl _ | (simp; done) | (simp; omega) | omega))) | exact Below.refl _ _ | assumption))
           · simp [Act.put]
             done)
        | (apply StepsD.pass
           · go_simp
             done
           · simp only [Act.put, List.setIfInBounds_toArray, List.set_cons_succ, List.set_cons_zero]
             rfl))
      refine StepsD.done ?_
      intro w9 hS9
      exact H.out _ _ _ _ _ _ _ _ _ _ _ _ _ _ _ _ _ _ _ _ _ w9 hS9
  · have hE : b = true := by rw [hb, decide_eq_false hyx]; rfl
    subst hE
    have hyl : (y.toList == x.toList) = false := beq_eq_false_iff_ne.2 fun e => hyx (hti _ _ e)
    clear hb HTR hts hti hyx
    conv in (regOf _ _) => whnf
    refine wp_region_b 22 (by kernel_rfl) (by kernel_rfl) ?_; simp only [List.take, List.drop]
    repeat (first
      | (apply StepsD.run
         · go_simp
           done
         · intro w' hS K hK
           have hc := (bcell hS).1
           have hf := (bcell hS).2
           have hz := hS.size
           try simp at hz
           go_simp
           try go_bits
           first
             | exact hK _ hS
             | (go_at_call 19; (refine (HIT.out _ hS).mono ?_); rintro e w1 ⟨rfl, hB1⟩; obtain ⟨hc1, hf1⟩ := bcell hB1; have hz1 := hB1.size; (try simp at hz1); exact hK _ (Below.trans hS (Below.mono hB1 (by first | exact Nat.le_refl _ | (simp; done) | (simp; omega) | omega))))
             | (go_at_call 24; (refine (HTR.out _).mono ?_); rintro e w1 ⟨rfl, rfl⟩; exact hK _ hS)
             | exact hK _ (by repeat (first | (with_reducible exact Below.refl _ _) | (with_reducible assumption) | ((with_reducible refine Below.setCell ?_ ?_ _); rotate_left; · (first | exact Nat.le_refl _ | (simp; done) | (simp; omega) | omega)) | ((with_reducible refine Below.alloc ?_ ?_ _); rotate_left; · (first | exact Nat.le_refl _ | (simp; done) | (simp; omega) | omega)) | (with_reducible apply Below.drew) | (with_reducible apply below_drewN') | (refine Below.trans ?_ (Below.mono (by assumption) (by first | exact Nat.le_refl _ | (simp; done) | (simp; omega) | omega))) | exact Below.refl _ _ | assumption))
         · simp [Act.put]
           done)
      | (apply StepsD.pass
         · go_simp
           done
         · simp only [Act.put, List.setIfInBounds_toArray, List.set_cons_succ, List.set_cons_zero]
           rfl))
    refine StepsD.done ?_
    intro w9 hS9
    exact H.out _ _ _ _ _ _ _ _ _ _ _ _ _ _ _ _ _ _ _ _ _ w9 hS9
end Go.Proofs.YtjimdnmdnjhnjaaGreatDoor
