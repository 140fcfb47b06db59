/- Contract: whether two marks interact, with errors. Contract: whether two marks are alike, with errors. Plain law: turned round, two marks interact and are alike just the same. -/
import Derived.Test.YtidgeagpgllkeaaGreatFeD
import Derived.Test.YtidgeagpgllkeaaGreatFcN
namespace Go.Proofs.YtidgeagpgllkeaaGreat
open Go.RowKit

def pairE (a b : Mk) (r : Ru) : Int := firstE [markE a, markE b, ruleE r]
set_option maxRecDepth 100000 in
set_option maxHeartbeats 1000000 in
theorem pubInteract_any (a b : Mk) (r : Ru) (hsa : a.nm.size ≤ 1000000000000) (hsb : b.nm.size ≤ 1000000000000) (hn : W64 r.num) (hd : W64 r.den) (w : World) :
    Calls Tryz.prog 46 #[.agg (mkC a), .agg (mkC b), .agg (ruC r)] w fun e w' => e = .returned (.tuple #[.bool (if pairE a b r = 0 then interactV a b r else false), .int .i64 (pairE a b r)]) ∧ Below w.heap.size w w' := by
  have HP : Hid (firstE [markE a, markE b, ruleE r] = pairE a b r) := Lib.hid rfl
  have HI : Hid (pairE a b r = 0 → ∀ w, Calls Tryz.prog 102 #[.agg (mkC a), .agg (mkC b), .agg (ruC r)] w fun e w' => e = .returned (.bool (interactV a b r)) ∧ Below w.heap.size w w') := Lib.hid (fun h w => by
    have hz := (firstE_zero _).1 h
    exact interact_any a b r (markE_zero (hz (markE a) (by simp))).1 (markE_zero (hz (markE b) (by simp))).1 (ruleE_zero (hz (ruleE r) (by simp))) w)
  obtain ⟨P, hP⟩ : ∃ P, pairE a b r = P := ⟨_, rfl⟩
  obtain ⟨V, hV⟩ : ∃ V, interactV a b r = V := ⟨_, rfl⟩
  rw [hP] at HP
  rw [hP, hV] at HI ⊢
  clear hP hV
  obtain ⟨R, hR⟩ : ∃ R, (if P = 0 then V else false) = R := ⟨_, rfl⟩
  rw [hR]
  have HR := Lib.hid hR
  clear hR
  have b3 := ((Blk.new w 79 (mkC a)).alloc (.cells (mkC b) 79)).alloc (.cells (ruC r) 62)
  have b4 := (Blk.new (w.alloc (.cells (mkC a) 79)) 79 (mkC b)).alloc (.cells (ruC r) 62)
  have b5 := Blk.new ((w.alloc (.cells (mkC a) 79)).alloc (.cells (mkC b) 79)) 62 (ruC r)
  have hBB : Below w.heap.size w (((w.alloc (.cells (mkC a) 79)).alloc (.cells (mkC b) 79)).alloc (.cells (ruC r) 62)) := (by repeat (first | (with_reducible exact Below.refl _ _) | (with_reducible assumption) | ((with_reducible refine Below.setCell ?_ ?_ _); rotate_left; · (first | exact Nat.le_refl _ | (simp; done) | (simp; omega) | omega)) | ((with_reducible refine Below.alloc ?_ ?_ _); rotate_left; · (first | exact Nat.le_refl _ | (simp; done) | (simp; omega) | omega)) | (with_reducible apply Below.drew) | (with_reducible apply below_drewN') | (refine Below.trans ?_ (Below.mono (by assumption) (by first | exact Nat.le_refl _ | (simp; done) | (simp; omega) | omega))) | exact Below.refl _ _ | assumption))
  simp only [World.size_alloc] at b4 b5
  go_enter Tryz.func46, Tryz.ntmps46
  go_wp2_with fail
  obtain ⟨W, hW⟩ : ∃ W, ((w.alloc (.cells (mkC a) 79)).alloc (.cells (mkC b) 79)).alloc (.cells (ruC r) 62) = W := ⟨_, rfl⟩
  rw [hW] at b3 b4 b5 hBB ⊢
  clear hW
  have l_b3 := b3.lt
  obtain ⟨d0, d1, d2, d3, d4, d5, f3⟩ := blk6 b3
  have l_b4 := b4.lt
  obtain ⟨e0, e1, e2, e3, e4, e5, f4⟩ := blk6 b4
  have l_b5 := b5.lt
  obtain ⟨c0, c1, c2, c3, f5⟩ := blk4r b5
  refine wp_region_b 6 (by kernel_rfl) (by kernel_rfl) ?_; simp only [List.take, List.drop]
  repeat (first
    | (apply StepsD.run
       · go_simp
         done
       · intro w' hS K hK
         have hc := (bcell hS).1
         have hf := (bcell hS).2
         have hz := hS.size
         try simp at hz
         go_simp
         try go_bits
         first
           | exact hK _ hS
           | (go_at_call 113; (with_reducible refine (markErr_any a hsa _).mono ?_); rintro e w1 ⟨rfl, hB1⟩; obtain ⟨hc1, hf1⟩ := bcell hB1; have hz1 := hB1.size; (try simp at hz1); exact hK _ (Below.trans hS (Below.mono hB1 (by first | exact Nat.le_refl _ | (simp; done) | (simp; omega) | omega))))
           | (go_at_call 113; (with_reducible refine (markErr_any b hsb _).mono ?_); rintro e w1 ⟨rfl, hB1⟩; obtain ⟨hc1, hf1⟩ := bcell hB1; have hz1 := hB1.size; (try simp at hz1); exact hK _ (Below.trans hS (Below.mono hB1 (by first | exact Nat.le_refl _ | (simp; done) | (simp; omega) | omega))))
           | (go_at_call 69; (with_reducible refine (checkRule_any r hn hd _).mono ?_); rintro e w1 ⟨rfl, hB1⟩; obtain ⟨hc1, hf1⟩ := bcell hB1; have hz1 := hB1.size; (try simp at hz1); exact hK _ (Below.trans hS (Below.mono hB1 (by first | exact Nat.le_refl _ | (simp; done) | (simp; omega) | omega))))
           | exact hK _ (by repeat (first | (with_reducible exact Below.refl _ _) | (with_reducible assumption) | ((with_reducible refine Below.setCell ?_ ?_ _); rotate_left; · (first | exact Nat.le_refl _ | (simp; done) | (simp; omega) | omega)) | ((with_reducible refine Below.alloc ?_ ?_ _); rotate_left; · (first | exact Nat.le_refl _ | (simp; done) | (simp; omega) | omega)) | (with_reducible apply Below.drew) | (with_reducible apply below_drewN') | (refine Below.trans ?_ (Below.mono (by assumption) (by first | exact Nat.le_refl _ | (simp; done) | (simp; omega) | omega))) | exact Below.refl _ _ | assumption))
       · simp [Act.put]
         done)
    | (apply StepsD.pass
       · go_simp
         done
       · simp only [Act.put, List.setIfInBounds_toArray, List.set_cons_succ, List.set_cons_zero]
         rfl))
  refine StepsD.done ?_
  intro w1 hS
  replace b3 := b3.gr hS
  replace b4 := b4.gr hS
  replace b5 := b5.gr hS
  replace hBB := hBB.trans (Below.mono hS (Below.size hBB))
  clear hS
  clear l_b3 d0 d1 d2 d3 d4 d5 f3 l_b4 e0 e1 e2 e3 e4 e5 f4 l_b5 c0 c1 c2 c3 f5
  have l_b3 := b3.lt
  have l_b4 := b4.lt
  have l_b5 := b5.lt
  obtain ⟨d0, d1, d2, d3, d4, d5, f3⟩ := blk6 b3
  obtain ⟨e0, e1, e2, e3, e4, e5, f4⟩ := blk6 b4
  obtain ⟨c0, c1, c2, c3, f5⟩ := blk4r b5
  go_wp2_with fail
  refine (first3_any _ _ _ _ _).mono ?_
  rw [HP.out]
  rintro e wc1 ⟨rfl, hBc1⟩
  replace b3 := b3.gr hBc1
  replace b4 := b4.gr hBc1
  replace b5 := b5.gr hBc1
  replace hBB := hBB.trans (Below.mono hBc1 (Below.size hBB))
  clear hBc1
  clear l_b3 d0 d1 d2 d3 d4 d5 f3 l_b4 e0 e1 e2 e3 e4 e5 f4 l_b5 c0 c1 c2 c3 f5
  have l_b3 := b3.lt
  have l_b4 := b4.lt
  have l_b5 := b5.lt
  obtain ⟨d0, d1, d2, d3, d4, d5, f3⟩ := blk6 b3
  obtain ⟨e0, e1, e2, e3, e4, e5, f4⟩ := blk6 b4
  obtain ⟨c0, c1, c2, c3, f5⟩ := blk4r b5
  by_cases h0 : P = 0
  · subst h0
    have C := HI.out rfl
    have HV : Hid (V = R) := Lib.hid HR.out
    go_wp2_with fail
    refine (C _).mono ?_
    rintro e wc2 ⟨rfl, hBc2⟩
    replace b3 := b3.gr hBc2
    replace b4 := b4.gr hBc2
    replace b5 := b5.gr hBc2
    replace hBB := hBB.trans (Below.mono hBc2 (Below.size hBB))
    clear hBc2
    clear l_b3 d0 d1 d2 d3 d4 d5 f3 l_b4 e0 e1 e2 e3 e4 e5 f4 l_b5 c0 c1 c2 c3 f5
    have l_b3 := b3.lt
    have l_b4 := b4.lt
    have l_b5 := b5.lt
    obtain ⟨d0, d1, d2, d3, d4, d5, f3⟩ := blk6 b3
    obtain ⟨e0, e1, e2, e3, e4, e5, f4⟩ := blk6 b4
    obtain ⟨c0, c1, c2, c3, f5⟩ := blk4r b5
    go_wp2
    go_ret2
    exact ⟨by rw [← HV.out]; rfl, hBB⟩
  · have HF : Hid (false = R) := Lib.hid (by rw [← HR.out, if_neg h0])
    have h0' : (P != 0) = true := by simpa using h0
    go_wp2
    go_ret2
    exact ⟨by rw [← HF.out]; rfl, hBB⟩
end Go.Proofs.YtidgeagpgllkeaaGreat

namespace Go.Proofs.YtidgeagpgllkeaaGreat
open Go.RowKit

set_option maxHeartbeats 400000 in
theorem slackErr_any (n : Int) (w : World) : Calls Tryz.prog 126 #[.int .i64 n] w fun e w' => e = .returned (.int .i64 (slackE n)) ∧ w = w' := by
  have HE : Hid (unlessE (wi n 0 100000) 2 = slackE n) := Lib.hid rfl
  go_enter Tryz.func126, Tryz.ntmps126
  go_wp2_with (first
    | (go_at_call 92; refine (within_any _ _ _ _).mono ?_; rintro e w1 ⟨rfl, rfl⟩)
    | (go_at_call 95; refine (unless_any _ _ _).mono ?_; rintro e w1 ⟨rfl, rfl⟩))
  go_ret
  exact ⟨by rw [← HE.out]; rfl, rfl⟩
def alikeE (a b : Mk) (n : Int) : Int := firstE [markE a, markE b, slackE n]
set_option maxRecDepth 100000 in
set_option maxHeartbeats 1000000 in
theorem alike_any (a b : Mk) (n : Int) (ha : MkS a) (hb : MkS b) (w : World) :
    Calls Tryz.prog 127 #[.agg (mkC a), .agg (mkC b), .int .i64 n] w fun e w' => e = .returned (.bool (alikeV a b n)) ∧ Below w.heap.size w w' := by
  have sm : ∀ x, Sm x → -1000000000 ≤ x ∧ x ≤ 1000000000 := fun x h => by unfold Sm at h; omega
  have HV : Hid ((decide (gapV a.al a.ah b.al b.ah ≤ n) && decide (gapV a.dl a.dh b.dl b.dh ≤ n)) = alikeV a b n) := Lib.hid rfl
  have C1 := fun w => gap_any a.al a.ah b.al b.ah (sm _ ha.al) (sm _ ha.ah) (sm _ hb.al) (sm _ hb.ah) w
  have C2 := fun w => gap_any a.dl a.dh b.dl b.dh (sm _ ha.dl) (sm _ ha.dh) (sm _ hb.dl) (sm _ hb.dh) w
  clear sm
  obtain ⟨X, hX⟩ : ∃ X, gapV a.al a.ah b.al b.ah = X := ⟨_, rfl⟩
  obtain ⟨Y, hY⟩ : ∃ Y, gapV a.dl a.dh b.dl b.dh = Y := ⟨_, rfl⟩
  rw [hX, hY] at HV
  rw [hX] at C1; rw [hY] at C2
  clear hX hY
  unfold rgC at C1 C2
  have b3 := (Blk.new w 79 (mkC a)).alloc (.cells (mkC b) 79)
  have b4 := Blk.new (w.alloc (.cells (mkC a) 79)) 79 (mkC b)
  have hBB : Below w.heap.size w ((w.alloc (.cells (mkC a) 79)).alloc (.cells (mkC b) 79)) := (by repeat (first | (with_reducible exact Below.refl _ _) | (with_reducible assumption) | ((with_reducible refine Below.setCell ?_ ?_ _); rotate_left; · (first | exact Nat.le_refl _ | (simp; done) | (simp; omega) | omega)) | ((with_reducible refine Below.alloc ?_ ?_ _); rotate_left; · (first | exact Nat.le_refl _ | (simp; done) | (simp; omega) | omega)) | (with_reducible apply Below.drew) | (with_reducible apply below_drewN') | (refine Below.trans ?_ (Below.mono (by assumption) (by first | exact Nat.le_refl _ | (simp; done) | (simp; omega) | omega))) | exact Below.refl _ _ | assumption))
  simp only [World.size_alloc] at b4
  go_enter Tryz.func127, Tryz.ntmps127
  go_upto_region 1 with fail
  obtain ⟨W, hW⟩ : ∃ W, (w.alloc (.cells (mkC a) 79)).alloc (.cells (mkC b) 79) = W := ⟨_, rfl⟩
  rw [hW] at b3 b4 hBB
  try rw [hW]
  clear hW
  have l_b3 := b3.lt
  obtain ⟨d0, d1, d2, d3, d4, d5, f3⟩ := blk6 b3
  have l_b4 := b4.lt
  obtain ⟨e0, e1, e2, e3, e4, e5, f4⟩ := blk6 b4
  by_cases h1 : X ≤ n
  · have HE : Hid (alikeV a b n = decide (Y ≤ n)) := Lib.hid (by rw [← HV.out, decide_eq_true h1, Bool.true_and])
    go_wp2_with fail
    refine (C1 _).mono ?_
    rintro e wc3 ⟨rfl, hBc3⟩
    replace b3 := b3.gr hBc3
    replace b4 := b4.gr hBc3
    replace hBB := hBB.trans (Below.mono hBc3 (Below.size hBB))
    clear hBc3
    clear l_b3 d0 d1 d2 d3 d4 d5 f3 l_b4 e0 e1 e2 e3 e4 e5 f4
    have l_b3 := b3.lt
    have l_b4 := b4.lt
    obtain ⟨d0, d1, d2, d3, d4, d5, f3⟩ := blk6 b3
    obtain ⟨e0, e1, e2, e3, e4, e5, f4⟩ := blk6 b4
    go_wp2_with fail
    refine (C2 _).mono ?_
    rintro e wc4 ⟨rfl, hBc4⟩
    replace b3 := b3.gr hBc4
    replace b4 := b4.gr hBc4
    replace hBB := hBB.trans (Below.mono hBc4 (Below.size hBB))
    clear hBc4
    clear l_b3 d0 d1 d2 d3 d4 d5 f3 l_b4 e0 e1 e2 e3 e4 e5 f4
    have l_b3 := b3.lt
    have l_b4 := b4.lt
    obtain ⟨d0, d1, d2, d3, d4, d5, f3⟩ := blk6 b3
    obtain ⟨e0, e1, e2, e3, e4, e5, f4⟩ := blk6 b4
    go_wp2
    go_ret
    exact ⟨by rw [HE.out]; rfl, hBB⟩
  · have HE : Hid (alikeV a b n = false) := Lib.hid (by rw [← HV.out, decide_eq_false h1, Bool.false_and])
    have h1' : decide (X ≤ n) = false := decide_eq_false h1
    go_wp2_with fail
    refine (C1 _).mono ?_
    rintro e wc5 ⟨rfl, hBc5⟩
    replace b3 := b3.gr hBc5
    replace b4 := b4.gr hBc5
    replace hBB := hBB.trans (Below.mono hBc5 (Below.size hBB))
    clear hBc5
    clear l_b3 d0 d1 d2 d3 d4 d5 f3 l_b4 e0 e1 e2 e3 e4 e5 f4
    have l_b3 := b3.lt
    have l_b4 := b4.lt
    obtain ⟨d0, d1, d2, d3, d4, d5, f3⟩ := blk6 b3
    obtain ⟨e0, e1, e2, e3, e4, e5, f4⟩ := blk6 b4
    go_wp2
    go_ret
    exact ⟨by rw [HE.out]; rfl, hBB⟩
set_option maxRecDepth 100000 in
set_option maxHeartbeats 1000000 in
theorem pubAlike_any (a b : Mk) (n : Int) (hsa : a.nm.size ≤ 1000000000000) (hsb : b.nm.size ≤ 1000000000000) (w : World) :
    Calls Tryz.prog 66 #[.agg (mkC a), .agg (mkC b), .int .i64 n] w fun e w' => e = .returned (.tuple #[.bool (if alikeE a b n = 0 then alikeV a b n else false), .int .i64 (alikeE a b n)]) ∧ Below w.heap.size w w' := by
  have HP : Hid (firstE [markE a, markE b, slackE n] = alikeE a b n) := Lib.hid rfl
  have HI : Hid (alikeE a b n = 0 → ∀ w, Calls Tryz.prog 127 #[.agg (mkC a), .agg (mkC b), .int .i64 n] w fun e w' => e = .returned (.bool (alikeV a b n)) ∧ Below w.heap.size w w') := Lib.hid (fun h w => by
    have hz := (firstE_zero _).1 h
    exact alike_any a b n (markE_zero (hz (markE a) (by simp))).1 (markE_zero (hz (markE b) (by simp))).1 w)
  obtain ⟨P, hP⟩ : ∃ P, alikeE a b n = P := ⟨_, rfl⟩
  obtain ⟨V, hV⟩ : ∃ V, alikeV a b n = V := ⟨_, rfl⟩
  rw [hP] at HP
  rw [hP, hV] at HI ⊢
  clear hP hV
  obtain ⟨R, hR⟩ : ∃ R, (if P = 0 then V else false) = R := ⟨_, rfl⟩
  rw [hR]
  have HR := Lib.hid hR
  clear hR
  have b3 := (Blk.new w 79 (mkC a)).alloc (.cells (mkC b) 79)
  have b4 := Blk.new (w.alloc (.cells (mkC a) 79)) 79 (mkC b)
  have hBB : Below w.heap.size w ((w.alloc (.cells (mkC a) 79)).alloc (.cells (mkC b) 79)) := (by repeat (first | (with_reducible exact Below.refl _ _) | (with_reducible assumption) | ((with_reducible refine Below.setCell ?_ ?_ _); rotate_left; · (first | exact Nat.le_refl _ | (simp; done) | (simp; omega) | omega)) | ((with_reducible refine Below.alloc ?_ ?_ _); rotate_left; · (first | exact Nat.le_refl _ | (simp; done) | (simp; omega) | omega)) | (with_reducible apply Below.drew) | (with_reducible apply below_drewN') | (refine Below.trans ?_ (Below.mono (by assumption) (by first | exact Nat.le_refl _ | (simp; done) | (simp; omega) | omega))) | exact Below.refl _ _ | assumption))
  simp only [World.size_alloc] at b4
  go_enter Tryz.func66, Tryz.ntmps66
  go_wp2_with fail
  obtain ⟨W, hW⟩ : ∃ W, (w.alloc (.cells (mkC a) 79)).alloc (.cells (mkC b) 79) = W := ⟨_, rfl⟩
  rw [hW] at b3 b4 hBB ⊢
  clear hW
  have l_b3 := b3.lt
  obtain ⟨d0, d1, d2, d3, d4, d5, f3⟩ := blk6 b3
  have l_b4 := b4.lt
  obtain ⟨e0, e1, e2, e3, e4, e5, f4⟩ := blk6 b4
  refine wp_region_b 6 (by kernel_rfl) (by kernel_rfl) ?_; simp only [List.take, List.drop]
  repeat (first
    | (apply StepsD.run
       · go_simp
         done
       · intro w' hS K hK
         have hc := (bcell hS).1
         have hf := (bcell hS).2
         have hz := hS.size
         try simp at hz
         go_simp
         try go_bits
         first
           | exact hK _ hS
           | (go_at_call 113; (with_reducible refine (markErr_any a hsa _).mono ?_); rintro e w1 ⟨rfl, hB1⟩; obtain ⟨hc1, hf1⟩ := bcell hB1; have hz1 := hB1.size; (try simp at hz1); exact hK _ (Below.trans hS (Below.mono hB1 (by first | exact Nat.le_refl _ | (simp; done) | (simp; omega) | omega))))
           | (go_at_call 113; (with_reducible refine (markErr_any b hsb _).mono ?_); rintro e w1 ⟨rfl, hB1⟩; obtain ⟨hc1, hf1⟩ := bcell hB1; have hz1 := hB1.size; (try simp at hz1); exact hK _ (Below.trans hS (Below.mono hB1 (by first | exact Nat.le_refl _ | (simp; done) | (simp; omega) | omega))))
           | (go_at_call 126; (with_reducible refine (slackErr_any n _).mono ?_); rintro e w1 ⟨rfl, rfl⟩; exact hK _ hS)
           | exact hK _ (by repeat (first | (with_reducible exact Below.refl _ _) | (with_reducible assumption) | ((with_reducible refine Below.setCell ?_ ?_ _); rotate_left; · (first | exact Nat.le_refl _ | (simp; done) | (simp; omega) | omega)) | ((with_reducible refine Below.alloc ?_ ?_ _); rotate_left; · (first | exact Nat.le_refl _ | (simp; done) | (simp; omega) | omega)) | (with_reducible apply Below.drew) | (with_reducible apply below_drewN') | (refine Below.trans ?_ (Below.mono (by assumption) (by first | exact Nat.le_refl _ | (simp; done) | (simp; omega) | omega))) | exact Below.refl _ _ | assumption))
       · simp [Act.put]
         done)
    | (apply StepsD.pass
       · go_simp
         done
       · simp only [Act.put, List.setIfInBounds_toArray, List.set_cons_succ, List.set_cons_zero]
         rfl))
  refine StepsD.done ?_
  intro w1 hS
  replace b3 := b3.gr hS
  replace b4 := b4.gr hS
  replace hBB := hBB.trans (Below.mono hS (Below.size hBB))
  clear hS
  clear l_b3 d0 d1 d2 d3 d4 d5 f3 l_b4 e0 e1 e2 e3 e4 e5 f4
  have l_b3 := b3.lt
  have l_b4 := b4.lt
  obtain ⟨d0, d1, d2, d3, d4, d5, f3⟩ := blk6 b3
  obtain ⟨e0, e1, e2, e3, e4, e5, f4⟩ := blk6 b4
  go_wp2_with fail
  refine (first3_any _ _ _ _ _).mono ?_
  rw [HP.out]
  rintro e wc6 ⟨rfl, hBc6⟩
  replace b3 := b3.gr hBc6
  replace b4 := b4.gr hBc6
  replace hBB := hBB.trans (Below.mono hBc6 (Below.size hBB))
  clear hBc6
  clear l_b3 d0 d1 d2 d3 d4 d5 f3 l_b4 e0 e1 e2 e3 e4 e5 f4
  have l_b3 := b3.lt
  have l_b4 := b4.lt
  obtain ⟨d0, d1, d2, d3, d4, d5, f3⟩ := blk6 b3
  obtain ⟨e0, e1, e2, e3, e4, e5, f4⟩ := blk6 b4
  by_cases h0 : P = 0
  · subst h0
    have C := HI.out rfl
    have HV : Hid (V = R) := Lib.hid HR.out
    go_wp2_with fail
    refine (C _).mono ?_
    rintro e wc7 ⟨rfl, hBc7⟩
    replace b3 := b3.gr hBc7
    replace b4 := b4.gr hBc7
    replace hBB := hBB.trans (Below.mono hBc7 (Below.size hBB))
    clear hBc7
    clear l_b3 d0 d1 d2 d3 d4 d5 f3 l_b4 e0 e1 e2 e3 e4 e5 f4
    have l_b3 := b3.lt
    have l_b4 := b4.lt
    obtain ⟨d0, d1, d2, d3, d4, d5, f3⟩ := blk6 b3
    obtain ⟨e0, e1, e2, e3, e4, e5, f4⟩ := blk6 b4
    go_wp2
    go_ret2
    exact ⟨by rw [← HV.out]; rfl, hBB⟩
  · have HF : Hid (false = R) := Lib.hid (by rw [← HR.out, if_neg h0])
    have h0' : (P != 0) = true := by simpa using h0
    go_wp2
    go_ret2
    exact ⟨by rw [← HF.out]; rfl, hBB⟩
end Go.Proofs.YtidgeagpgllkeaaGreat

namespace Go.Proofs.YtidgeagpgllkeaaGreat

theorem gapV_comm (a b c d : Int) : gapV a b c d = gapV c d a b := by unfold gapV; omega
theorem nearV_comm (a b c d m n e : Int) : nearV a b c d m n e = nearV c d a b m n e := by
  unfold nearV
  rw [gapV_comm a b c d, show min (b - a) (d - c) = min (d - c) (b - a) by omega]
theorem interactV_comm (a b : Mk) (r : Ru) : interactV a b r = interactV b a r := by
  unfold interactV
  rw [nearV_comm a.al, nearV_comm a.dl]
theorem alikeV_comm (a b : Mk) (n : Int) : alikeV a b n = alikeV b a n := by
  unfold alikeV
  rw [gapV_comm a.al, gapV_comm a.dl]
end Go.Proofs.YtidgeagpgllkeaaGreat
