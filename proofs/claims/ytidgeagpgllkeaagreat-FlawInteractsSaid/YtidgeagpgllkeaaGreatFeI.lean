/- The law FlawInteracts answers true. -/
import Derived.Test.YtidgeagpgllkeaaGreatFeF
import Derived.Test.YtidgeagpgllkeaaGreatFfB
import Derived.Test.YtidgeagpgllkeaaGreatFcP
namespace Go.Proofs.YtidgeagpgllkeaaGreat
open Go.RowKit

theorem blk12 {w : World} {g t : Nat} {v0 v1 v2 v3 v4 v5 v6 v7 v8 v9 v10 v11 : Value} (h : Blk w g t #[v0, v1, v2, v3, v4, v5, v6, v7, v8, v9, v10, v11]) :
    w.cell? ⟨g, 0, none⟩ = some v0 ∧ w.cell? ⟨g, 1, none⟩ = some v1 ∧ w.cell? ⟨g, 2, none⟩ = some v2 ∧ w.cell? ⟨g, 3, none⟩ = some v3 ∧ w.cell? ⟨g, 4, none⟩ = some v4 ∧ w.cell? ⟨g, 5, none⟩ = some v5 ∧
    w.cell? ⟨g, 6, none⟩ = some v6 ∧ w.cell? ⟨g, 7, none⟩ = some v7 ∧ w.cell? ⟨g, 8, none⟩ = some v8 ∧ w.cell? ⟨g, 9, none⟩ = some v9 ∧ w.cell? ⟨g, 10, none⟩ = some v10 ∧ w.cell? ⟨g, 11, none⟩ = some v11 ∧ ∀ i, w.frozen? ⟨g, i, none⟩ = false :=
  ⟨h.cell 0, h.cell 1, h.cell 2, h.cell 3, h.cell 4, h.cell 5, h.cell 6, h.cell 7, h.cell 8, h.cell 9, h.cell 10, h.cell 11, h.frozen⟩
abbrev prC (a b : Mk) : Array Value := #[.string a.nm, .int .i64 a.al, .int .i64 a.ah, .int .i64 a.dl, .int .i64 a.dh, .int .i64 a.lv, .string b.nm, .int .i64 b.al, .int .i64 b.ah, .int .i64 b.dl, .int .i64 b.dh, .int .i64 b.lv]
def markD (a b : Mk) : Int := if markE a = 0 then markE b else markE a
theorem pairE_eq (a b : Mk) (r : Ru) : pairE a b r = if markD a b = 0 then ruleE r else markD a b := by
  unfold pairE markD firstE firstE firstE
  by_cases h1 : markE a = 0
  · rw [if_pos h1, if_pos h1]
    by_cases h2 : markE b = 0
    · rw [if_pos h2, if_pos h2]; by_cases h3 : ruleE r = 0 <;> simp [h3, firstE]
    · rw [if_neg h2, if_neg h2]
  · rw [if_neg h1, if_neg h1, if_neg h1]
theorem alikeE_eq (a b : Mk) (n : Int) : alikeE a b n = if markD a b = 0 then slackE n else markD a b := by
  unfold alikeE markD firstE firstE firstE
  by_cases h1 : markE a = 0
  · rw [if_pos h1, if_pos h1]
    by_cases h2 : markE b = 0
    · rw [if_pos h2, if_pos h2]; by_cases h3 : slackE n = 0 <;> simp [h3, firstE]
    · rw [if_neg h2, if_neg h2]
  · rw [if_neg h1, if_neg h1, if_neg h1]
theorem pairE_comm {a b : Mk} {r : Ru} (h : pairE a b r = 0) : pairE b a r = 0 := by
  have hz := (firstE_zero _).1 h
  exact (firstE_zero _).2 fun e he => hz e (by simp at he ⊢; rcases he with h | h | h <;> simp [h])
theorem alikeE_comm {a b : Mk} {n : Int} (h : alikeE a b n = 0) : alikeE b a n = 0 := by
  have hz := (firstE_zero _).1 h
  exact (firstE_zero _).2 fun e he => hz e (by simp at he ⊢; rcases he with h | h | h <;> simp [h])

set_option maxRecDepth 100000 in
set_option maxHeartbeats 4000000 in
theorem flawInteracts_any (a b : Mk) (r : Ru) (n : Int) (hsa : a.nm.size ≤ 9223372036854775807) (hsb : b.nm.size ≤ 9223372036854775807) (hn : W64 r.num) (hd : W64 r.den) (w : World) :
    Calls Tryz.prog 14 #[.agg (prC a b), .agg (ruC r), .int .i64 n] w fun e w' => e = .returned (.bool true) ∧ Below w.heap.size w w' := by
  have b3 := (Blk.new w 113 (prC a b)).alloc (.cells (ruC r) 62)
  have b4 := Blk.new (w.alloc (.cells (prC a b) 113)) 62 (ruC r)
  have hBB : Below w.heap.size w ((w.alloc (.cells (prC a b) 113)).alloc (.cells (ruC r) 62)) := (by repeat (first | (with_reducible exact Below.refl _ _) | (with_reducible assumption) | ((with_reducible refine Below.setCell ?_ ?_ _); rotate_left; · (first | exact Nat.le_refl _ | (simp; done) | (simp; omega) | omega)) | ((with_reducible refine Below.alloc ?_ ?_ _); rotate_left; · (first | exact Nat.le_refl _ | (simp; done) | (simp; omega) | omega)) | (with_reducible apply Below.drew) | (with_reducible apply below_drewN') | (refine Below.trans ?_ (Below.mono (by assumption) (by first | exact Nat.le_refl _ | (simp; done) | (simp; omega) | omega))) | exact Below.refl _ _ | assumption))
  simp only [World.size_alloc] at b4
  go_enter Tryz.func14, Tryz.ntmps14
  go_wp2_with fail
  obtain ⟨W, hW⟩ : ∃ W, (w.alloc (.cells (prC a b) 113)).alloc (.cells (ruC r) 62) = W := ⟨_, rfl⟩
  rw [hW] at b3 b4 hBB ⊢
  clear hW
  refine (awake_any _).mono ?_
  rintro e w1 ⟨rfl, hB1⟩
  replace b3 := b3.gr hB1
  replace b4 := b4.gr hB1
  replace hBB := hBB.trans (hB1.mono (Below.size hBB))
  clear hB1
  have l_b3 := b3.lt
  obtain ⟨d0, d1, d2, d3, d4, d5, d6, d7, d8, d9, d10, d11, f3⟩ := blk12 b3
  have l_b4 := b4.lt
  obtain ⟨c0, c1, c2, c3, f4⟩ := blk4r b4
  by_cases ha : 20 < a.nm.size
  · go_wp2
    go_ret
    exact ⟨rfl, hBB⟩
  by_cases hb : 20 < b.nm.size
  · go_wp2
    go_ret
    exact ⟨rfl, hBB⟩
  have C1 := fun w => pubInteract_any a b r (by omega) (by omega) hn hd w
  have C2 := fun w => pubAlike_any a b n (by omega) (by omega) w
  have C3 := fun w => refMarkErr_any a (by omega) w
  have C4 := fun w => refMarkErr_any b (by omega) w
  have C5 := fun w => checkRule_any r hn hd w
  have C5' := fun w => refCheckRule_any r hn hd w
  have C6 := fun w => refSlack_any n w
  have C9 := fun w => pubInteract_any b a r (by omega) (by omega) hn hd w
  have C10 := fun w => pubAlike_any b a n (by omega) (by omega) w
  obtain ⟨I, hI⟩ : ∃ I, (if pairE a b r = 0 then interactV a b r else false) = I := ⟨_, rfl⟩
  obtain ⟨L, hL⟩ : ∃ L, (if alikeE a b n = 0 then alikeV a b n else false) = L := ⟨_, rfl⟩
  obtain ⟨I2, hI2⟩ : ∃ I, (if pairE b a r = 0 then interactV b a r else false) = I := ⟨_, rfl⟩
  obtain ⟨L2, hL2⟩ : ∃ L, (if alikeE b a n = 0 then alikeV b a n else false) = L := ⟨_, rfl⟩
  rw [hI] at C1; rw [hL] at C2; rw [hI2] at C9; rw [hL2] at C10
  have H7 : Hid (pairE a b r = 0 → ∀ w, Calls Tryz.prog 70 #[.agg (mkC a), .agg (mkC b), .agg (ruC r)] w fun e w' => e = .returned (.bool I) ∧ Below w.heap.size w w') := Lib.hid (fun h w => by
    have hz := (firstE_zero _).1 h
    rw [if_pos h] at hI
    have := refInteract_any a b r (markE_zero (hz (markE a) (by simp))).1 (markE_zero (hz (markE b) (by simp))).1 (ruleE_zero (hz (ruleE r) (by simp))) w
    rwa [hI] at this)
  have H8 : Hid (alikeE a b n = 0 → ∀ w, Calls Tryz.prog 71 #[.agg (mkC a), .agg (mkC b), .int .i64 n] w fun e w' => e = .returned (.bool L) ∧ Below w.heap.size w w') := Lib.hid (fun h w => by
    have hz := (firstE_zero _).1 h
    rw [if_pos h] at hL
    have := refAlike_any a b n (markE_zero (hz (markE a) (by simp))).1 (markE_zero (hz (markE b) (by simp))).1 w
    rwa [hL] at this)
  have HI0 : Hid (pairE a b r ≠ 0 → I = false) := Lib.hid (fun h => by rw [← hI, if_neg h])
  have HL0 : Hid (alikeE a b n ≠ 0 → L = false) := Lib.hid (fun h => by rw [← hL, if_neg h])
  have HI2 : Hid (pairE a b r = 0 → pairE b a r = 0 ∧ I2 = I) := Lib.hid (fun h => ⟨pairE_comm h, by rw [← hI, ← hI2, if_pos h, if_pos (pairE_comm h), interactV_comm]⟩)
  have HL2 : Hid (alikeE a b n = 0 → alikeE b a n = 0 ∧ L2 = L) := Lib.hid (fun h => ⟨alikeE_comm h, by rw [← hL, ← hL2, if_pos h, if_pos (alikeE_comm h), alikeV_comm]⟩)
  have HD : Hid ((markE a = 0 → markD a b = markE b) ∧ (markE a ≠ 0 → markD a b = markE a)) := Lib.hid ⟨fun h => by unfold markD; rw [if_pos h], fun h => by unfold markD; rw [if_neg h]⟩
  have HC : Hid ((markD a b = 0 → pairE a b r = ruleE r) ∧ (markD a b ≠ 0 → pairE a b r = markD a b)) := Lib.hid ⟨fun h => by rw [pairE_eq, if_pos h], fun h => by rw [pairE_eq, if_neg h]⟩
  have HG : Hid ((markD a b = 0 → alikeE a b n = slackE n) ∧ (markD a b ≠ 0 → alikeE a b n = markD a b)) := Lib.hid ⟨fun h => by rw [alikeE_eq, if_pos h], fun h => by rw [alikeE_eq, if_neg h]⟩
  clear hI hL hI2 hL2
  generalize pairE a b r = c at *
  generalize alikeE a b n = g at *
  generalize pairE b a r = c' at *
  generalize alikeE b a n = g' at *
  generalize markD a b = D at *
  generalize markE a = EA at *
  generalize markE b = EB at *
  generalize ruleE r = ER at *
  generalize slackE n = ES at *
  go_wp2_with fail
  refine (C1 _).mono ?_
  rintro e wc1 ⟨rfl, hBc1⟩
  replace b3 := b3.gr hBc1
  replace b4 := b4.gr hBc1
  replace hBB := hBB.trans (Below.mono hBc1 (Below.size hBB))
  clear hBc1
  clear l_b3 d0 d1 d2 d3 d4 d5 d6 d7 d8 d9 d10 d11 f3 l_b4 c0 c1 c2 c3 f4
  have l_b3 := b3.lt
  have l_b4 := b4.lt
  obtain ⟨d0, d1, d2, d3, d4, d5, d6, d7, d8, d9, d10, d11, f3⟩ := blk12 b3
  obtain ⟨c0, c1, c2, c3, f4⟩ := blk4r b4
  go_wp2_with fail
  refine (C2 _).mono ?_
  rintro e wc2 ⟨rfl, hBc2⟩
  replace b3 := b3.gr hBc2
  replace b4 := b4.gr hBc2
  replace hBB := hBB.trans (Below.mono hBc2 (Below.size hBB))
  clear hBc2
  clear l_b3 d0 d1 d2 d3 d4 d5 d6 d7 d8 d9 d10 d11 f3 l_b4 c0 c1 c2 c3 f4
  have l_b3 := b3.lt
  have l_b4 := b4.lt
  obtain ⟨d0, d1, d2, d3, d4, d5, d6, d7, d8, d9, d10, d11, f3⟩ := blk12 b3
  obtain ⟨c0, c1, c2, c3, f4⟩ := blk4r b4
  go_wp2_with fail
  refine (C3 _).mono ?_
  rintro e wc3 ⟨rfl, hBc3⟩
  replace b3 := b3.gr hBc3
  replace b4 := b4.gr hBc3
  replace hBB := hBB.trans (Below.mono hBc3 (Below.size hBB))
  clear hBc3
  clear l_b3 d0 d1 d2 d3 d4 d5 d6 d7 d8 d9 d10 d11 f3 l_b4 c0 c1 c2 c3 f4
  have l_b3 := b3.lt
  have l_b4 := b4.lt
  obtain ⟨d0, d1, d2, d3, d4, d5, d6, d7, d8, d9, d10, d11, f3⟩ := blk12 b3
  obtain ⟨c0, c1, c2, c3, f4⟩ := blk4r b4
  go_upto_if 54 with fail
  go_cut [11] (fun s11 wx => s11 = .int .i64 D ∧ Blk wx w.heap.size 113 (prC a b) ∧ Blk wx (w.heap.size + 1) 62 (ruC r) ∧ Below w.heap.size w wx)
  case first =>
    by_cases h0 : EA = 0
    · subst h0
      have hX := HD.out.1 rfl
      subst hX
      go_wp2_with fail
      refine (C4 _).mono ?_
      rintro e wc4 ⟨rfl, hBc4⟩
      replace b3 := b3.gr hBc4
      replace b4 := b4.gr hBc4
      replace hBB := hBB.trans (Below.mono hBc4 (Below.size hBB))
      clear hBc4
      clear l_b3 d0 d1 d2 d3 d4 d5 d6 d7 d8 d9 d10 d11 f3 l_b4 c0 c1 c2 c3 f4
      have l_b3 := b3.lt
      have l_b4 := b4.lt
      obtain ⟨d0, d1, d2, d3, d4, d5, d6, d7, d8, d9, d10, d11, f3⟩ := blk12 b3
      obtain ⟨c0, c1, c2, c3, f4⟩ := blk4r b4
      go_wp2
      go_meet
      exact ⟨rfl, b3, b4, hBB⟩
    · have hX := HD.out.2 h0
      subst hX
      have h0' : (D == 0) = false := by simpa using h0
      go_wp2
      go_meet
      exact ⟨rfl, b3, b4, hBB⟩
  case rest =>
    clear l_b3 d0 d1 d2 d3 d4 d5 d6 d7 d8 d9 d10 d11 f3 l_b4 c0 c1 c2 c3 f4
    clear b3 b4 hBB
    obtain ⟨rfl, b3, b4, hBB⟩ := hcut
    have l_b3 := b3.lt
    have l_b4 := b4.lt
    obtain ⟨d0, d1, d2, d3, d4, d5, d6, d7, d8, d9, d10, d11, f3⟩ := blk12 b3
    obtain ⟨c0, c1, c2, c3, f4⟩ := blk4r b4
    go_upto_if 61 with fail
    go_cut [12] (fun s12 wy => s12 = .int .i64 c ∧ Blk wy w.heap.size 113 (prC a b) ∧ Blk wy (w.heap.size + 1) 62 (ruC r) ∧ Below w.heap.size w wy)
    case first =>
      by_cases h0 : D = 0
      · subst h0
        have hX := HC.out.1 rfl
        subst hX
        go_wp2_with fail
        refine (C5' _).mono ?_
        rintro e wc5 ⟨rfl, hBc5⟩
        replace b3 := b3.gr hBc5
        replace b4 := b4.gr hBc5
        replace hBB := hBB.trans (Below.mono hBc5 (Below.size hBB))
        clear hBc5
        clear l_b3 d0 d1 d2 d3 d4 d5 d6 d7 d8 d9 d10 d11 f3 l_b4 c0 c1 c2 c3 f4
        have l_b3 := b3.lt
        have l_b4 := b4.lt
        obtain ⟨d0, d1, d2, d3, d4, d5, d6, d7, d8, d9, d10, d11, f3⟩ := blk12 b3
        obtain ⟨c0, c1, c2, c3, f4⟩ := blk4r b4
        go_wp2
        go_meet
        exact ⟨rfl, b3, b4, hBB⟩
      · have hX := HC.out.2 h0
        subst hX
        have h0' : (c == 0) = false := by simpa using h0
        go_wp2
        go_meet
        exact ⟨rfl, b3, b4, hBB⟩
    case rest =>
      clear l_b3 d0 d1 d2 d3 d4 d5 d6 d7 d8 d9 d10 d11 f3 l_b4 c0 c1 c2 c3 f4
      clear b3 b4 hBB
      obtain ⟨rfl, b3, b4, hBB⟩ := hcut
      have l_b3 := b3.lt
      have l_b4 := b4.lt
      obtain ⟨d0, d1, d2, d3, d4, d5, d6, d7, d8, d9, d10, d11, f3⟩ := blk12 b3
      obtain ⟨c0, c1, c2, c3, f4⟩ := blk4r b4
      go_upto_if 65 with fail
      go_cut [13] (fun s13 wz => s13 = .int .i64 g ∧ Blk wz w.heap.size 113 (prC a b) ∧ Blk wz (w.heap.size + 1) 62 (ruC r) ∧ Below w.heap.size w wz)
      case first =>
        by_cases h0 : D = 0
        · subst h0
          have hX := HG.out.1 rfl
          subst hX
          go_wp2_with fail
          refine (C6 _).mono ?_
          rintro e w1 ⟨rfl, rfl⟩
          go_wp2
          go_meet
          exact ⟨rfl, b3, b4, hBB⟩
        · have hX := HG.out.2 h0
          subst hX
          have h0' : (g == 0) = false := by simpa using h0
          go_wp2
          go_meet
          exact ⟨rfl, b3, b4, hBB⟩
      case rest =>
        clear l_b3 d0 d1 d2 d3 d4 d5 d6 d7 d8 d9 d10 d11 f3 l_b4 c0 c1 c2 c3 f4
        clear b3 b4 hBB
        obtain ⟨rfl, b3, b4, hBB⟩ := hcut
        have l_b3 := b3.lt
        have l_b4 := b4.lt
        obtain ⟨d0, d1, d2, d3, d4, d5, d6, d7, d8, d9, d10, d11, f3⟩ := blk12 b3
        obtain ⟨c0, c1, c2, c3, f4⟩ := blk4r b4
        clear HD HC HG C1 C2 C3 C4 C6
        go_upto_region 15 with fail
        refine wp_region_b 15 (by kernel_rfl) (by kernel_rfl) ?_; simp only [List.take, List.drop]
        repeat (first
          | (apply StepsD.run
             · go_simp
               done
             · intro w' hS K hK
               have hc := (bcell hS).1
               have hf := (bcell hS).2
               have hz := hS.size
               try simp at hz
               go_simp
               try go_bits
               first
                 | exact hK _ hS
                 | (go_at_call 69; (with_reducible refine (C5 _).mono ?_); rintro e w1 ⟨rfl, hB1⟩; obtain ⟨hc1, hf1⟩ := bcell hB1; have hz1 := hB1.size; (try simp at hz1); exact hK _ (Below.trans hS (Below.mono hB1 (by first | exact Nat.le_refl _ | (simp; done) | (simp; omega) | omega))))
                 | (go_at_call 39; (with_reducible refine (C5' _).mono ?_); rintro e w1 ⟨rfl, hB1⟩; obtain ⟨hc1, hf1⟩ := bcell hB1; have hz1 := hB1.size; (try simp at hz1); exact hK _ (Below.trans hS (Below.mono hB1 (by first | exact Nat.le_refl _ | (simp; done) | (simp; omega) | omega))))
                 | exact hK _ (by repeat (first | (with_reducible exact Below.refl _ _) | (with_reducible assumption) | ((with_reducible refine Below.setCell ?_ ?_ _); rotate_left; · (first | exact Nat.le_refl _ | (simp; done) | (simp; omega) | omega)) | ((with_reducible refine Below.alloc ?_ ?_ _); rotate_left; · (first | exact Nat.le_refl _ | (simp; done) | (simp; omega) | omega)) | (with_reducible apply Below.drew) | (with_reducible apply below_drewN') | (refine Below.trans ?_ (Below.mono (by assumption) (by first | exact Nat.le_refl _ | (simp; done) | (simp; omega) | omega))) | exact Below.refl _ _ | assumption))
             · simp [Act.put]
               done)
          | (apply StepsD.pass
             · go_simp
               done
             · simp only [Act.put, List.setIfInBounds_toArray, List.set_cons_succ, List.set_cons_zero]
               rfl))
        refine StepsD.done ?_
        intro w5 hS
        replace b3 := b3.gr hS
        replace b4 := b4.gr hS
        replace hBB := hBB.trans (Below.mono hS (Below.size hBB))
        clear hS
        clear l_b3 d0 d1 d2 d3 d4 d5 d6 d7 d8 d9 d10 d11 f3 l_b4 c0 c1 c2 c3 f4
        have l_b3 := b3.lt
        have l_b4 := b4.lt
        obtain ⟨d0, d1, d2, d3, d4, d5, d6, d7, d8, d9, d10, d11, f3⟩ := blk12 b3
        obtain ⟨c0, c1, c2, c3, f4⟩ := blk4r b4
        clear C5 C5'
        by_cases hc0 : c = 0
        · subst hc0
          have K7 := H7.out rfl
          obtain ⟨e1, e2⟩ := HI2.out rfl
          subst e1 e2
          clear H7 HI2 HI0
          by_cases hg0 : g = 0
          · subst hg0
            have K8 := H8.out rfl
            obtain ⟨e1, e2⟩ := HL2.out rfl
            subst e1 e2
            clear H8 HL2 HL0
            go_wp2_with fail
            refine (K7 _).mono ?_
            rintro e wc6 ⟨rfl, hBc6⟩
            replace b3 := b3.gr hBc6
            replace b4 := b4.gr hBc6
            replace hBB := hBB.trans (Below.mono hBc6 (Below.size hBB))
            clear hBc6
            clear l_b3 d0 d1 d2 d3 d4 d5 d6 d7 d8 d9 d10 d11 f3 l_b4 c0 c1 c2 c3 f4
            have l_b3 := b3.lt
            have l_b4 := b4.lt
            obtain ⟨d0, d1, d2, d3, d4, d5, d6, d7, d8, d9, d10, d11, f3⟩ := blk12 b3
            obtain ⟨c0, c1, c2, c3, f4⟩ := blk4r b4
            go_wp2_with fail
            refine (K8 _).mono ?_
            rintro e wc7 ⟨rfl, hBc7⟩
            replace b3 := b3.gr hBc7
            replace b4 := b4.gr hBc7
            replace hBB := hBB.trans (Below.mono hBc7 (Below.size hBB))
            clear hBc7
            clear l_b3 d0 d1 d2 d3 d4 d5 d6 d7 d8 d9 d10 d11 f3 l_b4 c0 c1 c2 c3 f4
            have l_b3 := b3.lt
            have l_b4 := b4.lt
            obtain ⟨d0, d1, d2, d3, d4, d5, d6, d7, d8, d9, d10, d11, f3⟩ := blk12 b3
            obtain ⟨c0, c1, c2, c3, f4⟩ := blk4r b4
            go_wp2_with fail
            refine (C9 _).mono ?_
            rintro e wc8 ⟨rfl, hBc8⟩
            replace b3 := b3.gr hBc8
            replace b4 := b4.gr hBc8
            replace hBB := hBB.trans (Below.mono hBc8 (Below.size hBB))
            clear hBc8
            clear l_b3 d0 d1 d2 d3 d4 d5 d6 d7 d8 d9 d10 d11 f3 l_b4 c0 c1 c2 c3 f4
            have l_b3 := b3.lt
            have l_b4 := b4.lt
            obtain ⟨d0, d1, d2, d3, d4, d5, d6, d7, d8, d9, d10, d11, f3⟩ := blk12 b3
            obtain ⟨c0, c1, c2, c3, f4⟩ := blk4r b4
            go_wp2_with fail
            refine (C10 _).mono ?_
            rintro e wc9 ⟨rfl, hBc9⟩
            replace b3 := b3.gr hBc9
            replace b4 := b4.gr hBc9
            replace hBB := hBB.trans (Below.mono hBc9 (Below.size hBB))
            clear hBc9
            clear l_b3 d0 d1 d2 d3 d4 d5 d6 d7 d8 d9 d10 d11 f3 l_b4 c0 c1 c2 c3 f4
            have l_b3 := b3.lt
            have l_b4 := b4.lt
            obtain ⟨d0, d1, d2, d3, d4, d5, d6, d7, d8, d9, d10, d11, f3⟩ := blk12 b3
            obtain ⟨c0, c1, c2, c3, f4⟩ := blk4r b4
            go_wp2
            go_ret
            exact ⟨by first | rfl | (simp; done), hBB⟩
          · have e3 := HL0.out hg0
            subst e3
            have h0 : (g != 0) = true := by simpa using hg0
            have h1 : (g == 0) = false := by simpa using hg0
            clear H8 HL2 HL0
            go_wp2_with fail
            refine (K7 _).mono ?_
            rintro e wc10 ⟨rfl, hBc10⟩
            replace b3 := b3.gr hBc10
            replace b4 := b4.gr hBc10
            replace hBB := hBB.trans (Below.mono hBc10 (Below.size hBB))
            clear hBc10
            clear l_b3 d0 d1 d2 d3 d4 d5 d6 d7 d8 d9 d10 d11 f3 l_b4 c0 c1 c2 c3 f4
            have l_b3 := b3.lt
            have l_b4 := b4.lt
            obtain ⟨d0, d1, d2, d3, d4, d5, d6, d7, d8, d9, d10, d11, f3⟩ := blk12 b3
            obtain ⟨c0, c1, c2, c3, f4⟩ := blk4r b4
            go_wp2_with fail
            refine (C9 _).mono ?_
            rintro e wc11 ⟨rfl, hBc11⟩
            replace b3 := b3.gr hBc11
            replace b4 := b4.gr hBc11
            replace hBB := hBB.trans (Below.mono hBc11 (Below.size hBB))
            clear hBc11
            clear l_b3 d0 d1 d2 d3 d4 d5 d6 d7 d8 d9 d10 d11 f3 l_b4 c0 c1 c2 c3 f4
            have l_b3 := b3.lt
            have l_b4 := b4.lt
            obtain ⟨d0, d1, d2, d3, d4, d5, d6, d7, d8, d9, d10, d11, f3⟩ := blk12 b3
            obtain ⟨c0, c1, c2, c3, f4⟩ := blk4r b4
            go_wp2_with fail
            refine (C10 _).mono ?_
            rintro e wc12 ⟨rfl, hBc12⟩
            replace b3 := b3.gr hBc12
            replace b4 := b4.gr hBc12
            replace hBB := hBB.trans (Below.mono hBc12 (Below.size hBB))
            clear hBc12
            clear l_b3 d0 d1 d2 d3 d4 d5 d6 d7 d8 d9 d10 d11 f3 l_b4 c0 c1 c2 c3 f4
            have l_b3 := b3.lt
            have l_b4 := b4.lt
            obtain ⟨d0, d1, d2, d3, d4, d5, d6, d7, d8, d9, d10, d11, f3⟩ := blk12 b3
            obtain ⟨c0, c1, c2, c3, f4⟩ := blk4r b4
            go_wp2
            go_ret
            exact ⟨by first | rfl | (simp; done), hBB⟩
        · have e3 := HI0.out hc0
          subst e3
          have h0 : (c != 0) = true := by simpa using hc0
          have h1 : (c == 0) = false := by simpa using hc0
          clear H7 HI2 HI0
          by_cases hg0 : g = 0
          · subst hg0
            have K8 := H8.out rfl
            obtain ⟨e1, e2⟩ := HL2.out rfl
            subst e1 e2
            clear H8 HL2 HL0
            go_wp2_with fail
            refine (K8 _).mono ?_
            rintro e wc13 ⟨rfl, hBc13⟩
            replace b3 := b3.gr hBc13
            replace b4 := b4.gr hBc13
            replace hBB := hBB.trans (Below.mono hBc13 (Below.size hBB))
            clear hBc13
            clear l_b3 d0 d1 d2 d3 d4 d5 d6 d7 d8 d9 d10 d11 f3 l_b4 c0 c1 c2 c3 f4
            have l_b3 := b3.lt
            have l_b4 := b4.lt
            obtain ⟨d0, d1, d2, d3, d4, d5, d6, d7, d8, d9, d10, d11, f3⟩ := blk12 b3
            obtain ⟨c0, c1, c2, c3, f4⟩ := blk4r b4
            go_wp2_with fail
            refine (C9 _).mono ?_
            rintro e wc14 ⟨rfl, hBc14⟩
            replace b3 := b3.gr hBc14
            replace b4 := b4.gr hBc14
            replace hBB := hBB.trans (Below.mono hBc14 (Below.size hBB))
            clear hBc14
            clear l_b3 d0 d1 d2 d3 d4 d5 d6 d7 d8 d9 d10 d11 f3 l_b4 c0 c1 c2 c3 f4
            have l_b3 := b3.lt
            have l_b4 := b4.lt
            obtain ⟨d0, d1, d2, d3, d4, d5, d6, d7, d8, d9, d10, d11, f3⟩ := blk12 b3
            obtain ⟨c0, c1, c2, c3, f4⟩ := blk4r b4
            go_wp2_with fail
            refine (C10 _).mono ?_
            rintro e wc15 ⟨rfl, hBc15⟩
            replace b3 := b3.gr hBc15
            replace b4 := b4.gr hBc15
            replace hBB := hBB.trans (Below.mono hBc15 (Below.size hBB))
            clear hBc15
            clear l_b3 d0 d1 d2 d3 d4 d5 d6 d7 d8 d9 d10 d11 f3 l_b4 c0 c1 c2 c3 f4
            have l_b3 := b3.lt
            have l_b4 := b4.lt
            obtain ⟨d0, d1, d2, d3, d4, d5, d6, d7, d8, d9, d10, d11, f3⟩ := blk12 b3
            obtain ⟨c0, c1, c2, c3, f4⟩ := blk4r b4
            go_wp2
            go_ret
            exact ⟨by first | rfl | (simp; done), hBB⟩
          · have e3 := HL0.out hg0
            subst e3
            have h2 : (g != 0) = true := by simpa using hg0
            have h3 : (g == 0) = false := by simpa using hg0
            clear H8 HL2 HL0
            go_wp2_with fail
            refine (C9 _).mono ?_
            rintro e wc16 ⟨rfl, hBc16⟩
            replace b3 := b3.gr hBc16
            replace b4 := b4.gr hBc16
            replace hBB := hBB.trans (Below.mono hBc16 (Below.size hBB))
            clear hBc16
            clear l_b3 d0 d1 d2 d3 d4 d5 d6 d7 d8 d9 d10 d11 f3 l_b4 c0 c1 c2 c3 f4
            have l_b3 := b3.lt
            have l_b4 := b4.lt
            obtain ⟨d0, d1, d2, d3, d4, d5, d6, d7, d8, d9, d10, d11, f3⟩ := blk12 b3
            obtain ⟨c0, c1, c2, c3, f4⟩ := blk4r b4
            go_wp2_with fail
            refine (C10 _).mono ?_
            rintro e wc17 ⟨rfl, hBc17⟩
            replace b3 := b3.gr hBc17
            replace b4 := b4.gr hBc17
            replace hBB := hBB.trans (Below.mono hBc17 (Below.size hBB))
            clear hBc17
            clear l_b3 d0 d1 d2 d3 d4 d5 d6 d7 d8 d9 d10 d11 f3 l_b4 c0 c1 c2 c3 f4
            have l_b3 := b3.lt
            have l_b4 := b4.lt
            obtain ⟨d0, d1, d2, d3, d4, d5, d6, d7, d8, d9, d10, d11, f3⟩ := blk12 b3
            obtain ⟨c0, c1, c2, c3, f4⟩ := blk4r b4
            go_wp2
            go_ret
            exact ⟨by first | rfl | (simp; done), hBB⟩
end Go.Proofs.YtidgeagpgllkeaaGreat
