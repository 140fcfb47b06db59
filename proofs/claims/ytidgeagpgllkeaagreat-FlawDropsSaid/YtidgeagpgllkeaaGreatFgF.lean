/- Contract: the reference's length of a drop. -/
import Derived.Test.YtidgeagpgllkeaaGreatFgC
import Derived.Test.YtidgeagpgllkeaaGreatFeD
namespace Go.Proofs.YtidgeagpgllkeaaGreat
open Go.RowKit

set_option maxRecDepth 100000 in
set_option maxHeartbeats 4000000 in
theorem refDrop_any (l : List Sc) (A : Option Addr) (cap B : Nat) (p0 p1 p2 num den : Int) (w : World) (hl : ScOk l A B w) (hB : B ≤ w.heap.size) (he : (scansE l).2 = 0) (h0 : -200000 ≤ p0 ∧ p0 ≤ 200000) (h1 : -200000 ≤ p1 ∧ p1 ≤ 200000) (hn : W64 num) (hd : W64 den) :
    Calls Tryz.prog 29 #[.slice A l.length cap, .agg #[.int .i64 p0, .int .i64 p1, .int .i64 p2], .agg #[.int .i64 num, .int .i64 den]] w fun e w' => e = .returned (reC (dropV l p0 p1 p2 num den)) ∧ Below w.heap.size w w' := by
  have HN := Lib.hid hn; have HD := Lib.hid hd
  clear hn hd
  unfold reC
  go_enter Tryz.func29, Tryz.ntmps29
  go_upto_region 1 with fail
  have b4 := ((Blk.new w 43 #[.int .i64 p0, .int .i64 p1, .int .i64 p2]).alloc (.cells #[.int .i64 num, .int .i64 den] 45)).alloc (.cells #[.int .i64 0, .int .i64 0] 48)
  have b5 := (Blk.new (w.alloc (.cells #[.int .i64 p0, .int .i64 p1, .int .i64 p2] 43)) 45 #[.int .i64 num, .int .i64 den]).alloc (.cells #[.int .i64 0, .int .i64 0] 48)
  have b6 := Blk.new ((w.alloc (.cells #[.int .i64 p0, .int .i64 p1, .int .i64 p2] 43)).alloc (.cells #[.int .i64 num, .int .i64 den] 45)) 48 #[.int .i64 0, .int .i64 0]
  have hBB : Below w.heap.size w (((w.alloc (.cells #[.int .i64 p0, .int .i64 p1, .int .i64 p2] 43)).alloc (.cells #[.int .i64 num, .int .i64 den] 45)).alloc (.cells #[.int .i64 0, .int .i64 0] 48)) := (by repeat (first | (with_reducible exact Below.refl _ _) | (with_reducible assumption) | ((with_reducible refine Below.setCell ?_ ?_ _); rotate_left; · (first | exact Nat.le_refl _ | (simp; done) | (simp; omega) | omega)) | ((with_reducible refine Below.alloc ?_ ?_ _); rotate_left; · (first | exact Nat.le_refl _ | (simp; done) | (simp; omega) | omega)) | (with_reducible apply Below.drew) | (with_reducible apply below_drewN') | (refine Below.trans ?_ (Below.mono (by assumption) (by first | exact Nat.le_refl _ | (simp; done) | (simp; omega) | omega))) | exact Below.refl _ _ | assumption))
  simp only [World.size_alloc] at b5 b6
  obtain ⟨W, hW⟩ : ∃ W, ((w.alloc (.cells #[.int .i64 p0, .int .i64 p1, .int .i64 p2] 43)).alloc (.cells #[.int .i64 num, .int .i64 den] 45)).alloc (.cells #[.int .i64 0, .int .i64 0] 48) = W := ⟨_, rfl⟩
  rw [hW] at b4 b5 b6 hBB
  try rw [hW]
  clear hW
  obtain ⟨S5, hS5⟩ : ∃ n, w.heap.size + 1 = n := ⟨_, rfl⟩
  obtain ⟨S6, hS6⟩ : ∃ n, w.heap.size + 1 + 1 = n := ⟨_, rfl⟩
  rw [hS5] at b5
  rw [hS6] at b6
  try rw [hS6]
  try rw [hS5]
  have n46 : w.heap.size ≠ S6 := by omega
  have n56 : S5 ≠ S6 := by omega
  have g6 : w.heap.size ≤ S6 := by omega
  have hzW := Below.size hBB
  have l_b4 := b4.lt
  obtain ⟨x0, x1, x2, _⟩ := blk3c b4
  have l_b5 := b5.lt
  obtain ⟨y0, y1, _⟩ := blk2c b5
  have l_b6 := b6.lt
  obtain ⟨z0, z1, z2⟩ := blk2c b6
  have HG := Lib.hid (scansE_zero he).2
  have HV0 : Hid (dropV l p0 p1 p2 num den = if wi p2 0 1 = false then ⟨0, 0, 15⟩ else if lowB num den = false then ⟨0, 0, 3⟩ else if num < 1 ∨ den < num ∨ 1000 < den then ⟨0, 0, 2⟩
    else if atV l p0 p1 < 0 then ⟨0, 0, 6⟩ else if atV l p0 p1 = 0 then ⟨0, 0, 11⟩ else
    bothV l p0 p1 p2 num den) := Lib.hid (by unfold dropV; rw [if_neg (by rw [he]; decide)])
  clear he
  cases q2 : wi p2 0 1
  · have HV : Hid (dropV l p0 p1 p2 num den = ⟨0, 0, 15⟩) := Lib.hid (by rw [HV0.out, if_pos q2])
    have q2a : (p2 != 0) = true := by simp [wi] at q2; simp; omega
    have q2b : (p2 != 1) = true := by simp [wi] at q2; simp; omega
    go_wp2
    obtain ⟨u0, u1⟩ := ret2 b6 (.int .i64 0) (.int .i64 0)
    rw [HV.out]
    exact bodyPost_ret (v := .tuple #[.agg #[.int .i64 0, .int .i64 0], .int .i64 15]) (by simp [results, Tryz.results29, go_sem, u0, u1]) rfl ⟨rfl, (hBB.setCell g6 _).setCell g6 _⟩
  have hp2 : p2 = 0 ∨ p2 = 1 := by simp [wi] at q2; omega
  have HV1' : Hid (dropV l p0 p1 p2 num den = if lowB num den = false then ⟨0, 0, 3⟩ else if num < 1 ∨ den < num ∨ 1000 < den then ⟨0, 0, 2⟩
    else if atV l p0 p1 < 0 then ⟨0, 0, 6⟩ else if atV l p0 p1 = 0 then ⟨0, 0, 11⟩ else
    bothV l p0 p1 p2 num den) := Lib.hid (by rw [HV0.out, if_neg (by rw [q2]; decide)])
  clear q2 HV0
  rcases hp2 with rfl | rfl
  · obtain ⟨q3v, hq3⟩ : ∃ b, lowB num den = b := ⟨_, rfl⟩
    have Q3 := Lib.hid hq3; clear hq3
    go_wp2_with fail
    refine (bIsLowest_any _ _ HN.out HD.out _).mono ?_
    rw [Q3.out]
    rintro e wc1 ⟨rfl, hBc1⟩
    replace b4 := b4.gr hBc1
    replace b5 := b5.gr hBc1
    replace b6 := b6.gr hBc1
    replace hBB := hBB.trans (Below.mono hBc1 (Below.size hBB))
    clear hBc1
    clear l_b4 x0 x1 x2 l_b5 y0 y1 l_b6 z0 z1 z2
    have l_b4 := b4.lt
    have l_b5 := b5.lt
    have l_b6 := b6.lt
    obtain ⟨x0, x1, x2, _⟩ := blk3c b4
    obtain ⟨y0, y1, _⟩ := blk2c b5
    obtain ⟨z0, z1, z2⟩ := blk2c b6
    cases q3v
    · have HV : Hid (dropV l p0 p1 0 num den = ⟨0, 0, 3⟩) := Lib.hid (by rw [HV1'.out, if_pos Q3.out])
      go_wp2
      obtain ⟨u0, u1⟩ := ret2 b6 (.int .i64 0) (.int .i64 0)
      rw [HV.out]
      exact bodyPost_ret (v := .tuple #[.agg #[.int .i64 0, .int .i64 0], .int .i64 3]) (by simp [results, Tryz.results29, go_sem, u0, u1]) rfl ⟨rfl, (hBB.setCell g6 _).setCell g6 _⟩
    by_cases q4 : num < 1 ∨ den < num ∨ 1000 < den
    · have HV : Hid (dropV l p0 p1 0 num den = ⟨0, 0, 2⟩) := Lib.hid (by rw [HV1'.out, if_neg (by rw [Q3.out]; decide), if_pos q4])
      have q5 : wi num 1 den = false ∨ (wi num 1 den = true ∧ 1000 < den) := by simp [wi]; omega
      clear q4
      rcases q5 with q5 | ⟨q5, q6⟩
      all_goals
        go_wp2_with (go_at_call 27; refine (bWithin_any _ _ _ _).mono ?_; rintro e w1 ⟨rfl, rfl⟩)
        obtain ⟨u0, u1⟩ := ret2 b6 (.int .i64 0) (.int .i64 0)
        rw [HV.out]
        exact bodyPost_ret (v := .tuple #[.agg #[.int .i64 0, .int .i64 0], .int .i64 2]) (by simp [results, Tryz.results29, go_sem, u0, u1]) rfl ⟨rfl, (hBB.setCell g6 _).setCell g6 _⟩
    have r1 : 1 ≤ num := by omega
    have r2 : num ≤ den := by omega
    have r3 : den ≤ 1000 := by omega
    have q5 : wi num 1 den = true := by simp [wi]; omega
    have HV1 : Hid (dropV l p0 p1 0 num den = if atV l p0 p1 < 0 then ⟨0, 0, 6⟩ else if atV l p0 p1 = 0 then ⟨0, 0, 11⟩ else
      bothV l p0 p1 0 num den) := Lib.hid (by rw [HV1'.out, if_neg (by rw [Q3.out]; decide), if_neg q4])
    clear q4 HV1'
    go_wp2_with fail
    refine (bWithin_any _ _ _ _).mono ?_
    rw [q5]
    rintro e w1 ⟨rfl, rfl⟩
    clear q5
    obtain ⟨own, hown⟩ : ∃ own, atV l p0 p1 = own := ⟨_, rfl⟩
    have HOWN := Lib.hid hown
    have hkn := fun h => atV_known HG.out (show 0 ≤ atV l p0 p1 from h)
    have hbd := atV_bd HG.out p0 p1
    rw [hown] at hkn hbd
    have hHKN := Lib.hid hkn
    clear hown hkn
    go_wp2_with fail
    refine (refAt_any l A cap B p0 p1 _ (hl.below hBB hB) (by have := Below.size hBB; omega) HG (by omega) (by omega)).mono ?_
    rw [HOWN.out]
    rintro e wc2 ⟨rfl, hBc2⟩
    replace b4 := b4.gr hBc2
    replace b5 := b5.gr hBc2
    replace b6 := b6.gr hBc2
    replace hBB := hBB.trans (Below.mono hBc2 (Below.size hBB))
    clear hBc2
    clear l_b4 x0 x1 x2 l_b5 y0 y1 l_b6 z0 z1 z2
    have l_b4 := b4.lt
    have l_b5 := b5.lt
    have l_b6 := b6.lt
    obtain ⟨x0, x1, x2, _⟩ := blk3c b4
    obtain ⟨y0, y1, _⟩ := blk2c b5
    obtain ⟨z0, z1, z2⟩ := blk2c b6
    by_cases k0 : own < 0
    · have HV : Hid (dropV l p0 p1 0 num den = ⟨0, 0, 6⟩) := Lib.hid (by rw [HV1.out, HOWN.out, if_pos k0])
      go_wp2
      obtain ⟨u0, u1⟩ := ret2 b6 (.int .i64 0) (.int .i64 0)
      rw [HV.out]
      exact bodyPost_ret (v := .tuple #[.agg #[.int .i64 0, .int .i64 0], .int .i64 6]) (by simp [results, Tryz.results29, go_sem, u0, u1]) rfl ⟨rfl, (hBB.setCell g6 _).setCell g6 _⟩
    by_cases k1 : own = 0
    · have HV : Hid (dropV l p0 p1 0 num den = ⟨0, 0, 11⟩) := Lib.hid (by rw [HV1.out, HOWN.out, if_neg k0, if_pos k1])
      subst k1
      go_wp2
      obtain ⟨u0, u1⟩ := ret2 b6 (.int .i64 0) (.int .i64 0)
      rw [HV.out]
      exact bodyPost_ret (v := .tuple #[.agg #[.int .i64 0, .int .i64 0], .int .i64 11]) (by simp [results, Tryz.results29, go_sem, u0, u1]) rfl ⟨rfl, (hBB.setCell g6 _).setCell g6 _⟩
    have HV : Hid (dropV l p0 p1 0 num den = bothV l p0 p1 0 num den) := Lib.hid (by rw [HV1.out, HOWN.out, if_neg k0, if_neg k1])
    obtain ⟨kn1, kn2, kn3, kn4⟩ := hHKN.out (by omega)
    have k3 : (own == 0) = false := by simpa using k1
    clear HV1 k1 hHKN
    go_wp2
    clear l_b4 x0 x1 x2 l_b5 y0 y1 l_b6 z0 z1 z2
    go_loopw [9, 10] (fun s9 s10 wr => ∃ k L : Nat, s10 = .int .i64 (2 * (k : Int) - 1) ∧ s9 = .int .i64 L ∧ k ≤ 2 ∧ L ≤ k * 200300 ∧ Hid (dropSt l p0 p1 0 num den k L) ∧ Blk wr w.heap.size 43 #[.int .i64 p0, .int .i64 p1, .int .i64 0] ∧ Blk wr S5 45 #[.int .i64 num, .int .i64 den] ∧ Blk wr S6 48 #[.int .i64 0, .int .i64 0] ∧ Below w.heap.size w wr) (fun _ s10 _ => (5 - intOf s10).toNat)
    case atStart => exact ⟨0, 0, by simp, rfl, by omega, by omega, Lib.hid (.inl ⟨rfl, rfl⟩), b4, b5, b6, hBB⟩
    case round =>
      clear b4 b5 b6 hBB
      obtain ⟨k, L, rfl, rfl, hk, hL, HS, b4, b5, b6, hBB⟩ := hrel
      have l_b4 := b4.lt
      have l_b5 := b5.lt
      have l_b6 := b6.lt
      obtain ⟨x0, x1, x2, _⟩ := blk3c b4
      obtain ⟨y0, y1, _⟩ := blk2c b5
      obtain ⟨z0, z1, z2⟩ := blk2c b6
      by_cases hlt : k < 2
      · obtain ⟨d, hd, H1, H2⟩ := dropSt_step HS.out hlt
        have hdk : 2 * (k : Int) - 1 = d := by omega
        rw [hdk]
        have HN1 := Lib.hid H1; have HN2 := Lib.hid H2
        have hd' : -1 ≤ d ∧ d ≤ 1 ∧ d ≠ 0 := by omega
        clear H1 H2 hd
        have HXS : Hid (∀ (j : Nat) (x y : Int), x = prV p0 0 d j → y = pcV p1 0 d j → prV p0 0 d (j + 1) = x + d ∧ pcV p1 0 d (j + 1) = y) := Lib.hid (fun j x y h1 h2 => by
          unfold prV at *; unfold pcV at *; simp at h1 h2 ⊢; rw [h1, h2]; rw [Int.mul_add]; omega)
        have HJB : Hid (∀ (j : Nat) (x y : Int), x = prV p0 0 d j → y = pcV p1 0 d j → -100000 ≤ x → x ≤ 100023 → -100000 ≤ y → y ≤ 100023 → j ≤ 200023) := Lib.hid (fun j x y h1 h2 a1 a2 a3 a4 => by
          unfold prV at h1; unfold pcV at h2; simp at h1 h2
          rcases (show d = -1 ∨ d = 1 by omega) with rfl | rfl <;> omega)
        go_wp2
        have hpS0 : S6 < wr.heap.size := b6.lt
        have bc := Blk.new wr 25 #[.int .i64 p0, .int .i64 p1]
        replace b4 := b4.alloc (.cells #[.int .i64 p0, .int .i64 p1] 25 (0, 0))
        replace b5 := b5.alloc (.cells #[.int .i64 p0, .int .i64 p1] 25 (0, 0))
        replace b6 := b6.alloc (.cells #[.int .i64 p0, .int .i64 p1] 25 (0, 0))
        replace hBB := hBB.alloc (Below.size hBB) (.cells #[.int .i64 p0, .int .i64 p1] 25 (0, 0))
        clear l_b4 x0 x1 x2 l_b5 y0 y1 l_b6 z0 z1 z2
        have l_b4 := b4.lt
        have l_b5 := b5.lt
        have l_b6 := b6.lt
        have l_bc := bc.lt
        obtain ⟨x0, x1, x2, _⟩ := blk3c b4
        obtain ⟨y0, y1, _⟩ := blk2c b5
        obtain ⟨z0, z1, z2⟩ := blk2c b6
        obtain ⟨t0, t1, t2⟩ := blk2c bc
        generalize hpp : wr.heap.size = p at *
        generalize (wr.alloc (.cells #[.int .i64 p0, .int .i64 p1] 25)) = wx at *
        clear l_b4 x0 x1 x2 l_b5 y0 y1 l_b6 z0 z1 z2 l_bc t0 t1 t2
        go_loopw [9] (fun s9 wq => ∃ (j : Nat) (x y : Int), s9 = .int .i64 ((L + j : Nat) : Int) ∧ Blk wq p 25 #[.int .i64 x, .int .i64 y] ∧
          Hid (x = prV p0 0 d j ∧ y = pcV p1 0 d j ∧ runV (seqV l p0 p1 0 d) (atV l p0 p1) num den 300000 0 = runV (seqV l p0 p1 0 d) (atV l p0 p1) num den (300000 - j) j) ∧ (-100000 ≤ x ∧ x ≤ 100023) ∧ (-100000 ≤ y ∧ y ≤ 100023) ∧ Blk wq w.heap.size 43 #[.int .i64 p0, .int .i64 p1, .int .i64 0] ∧ Blk wq S5 45 #[.int .i64 num, .int .i64 den] ∧ Blk wq S6 48 #[.int .i64 0, .int .i64 0] ∧ Below w.heap.size w wq) (fun s9 _ => 1000000 - (intOf s9).toNat)
        case atStart => exact ⟨0, p0, p1, by simp, bc, Lib.hid (by unfold prV pcV; simp), by omega, by omega, b4, b5, b6, hBB⟩
        case round =>
          clear b4 b5 b6 hBB bc
          obtain ⟨j, x, y, rfl, bc, HX, hx, hy, b4, b5, b6, hBB⟩ := hrel
          have l_b4 := b4.lt
          have l_b5 := b5.lt
          have l_b6 := b6.lt
          have l_bc := bc.lt
          obtain ⟨x0, x1, x2, _⟩ := blk3c b4
          obtain ⟨y0, y1, _⟩ := blk2c b5
          obtain ⟨z0, z1, z2⟩ := blk2c b6
          obtain ⟨t0, t1, t2⟩ := blk2c bc
          have hjb := HJB.out j x y HX.out.1 HX.out.2.1 hx.1 hx.2 hy.1 hy.2
          have n4p : w.heap.size ≠ p := by omega
          have n5p : S5 ≠ p := by omega
          have n6p : S6 ≠ p := by omega
          have HQW := Lib.hid (HXS.out j x y HX.out.1 HX.out.2.1)
          have HSQ : Hid (seqV l p0 p1 0 d j = atV l (x + d) (y)) := Lib.hid (by unfold seqV; rw [HQW.out.1, HQW.out.2])
          have HRS : Hid (runV (seqV l p0 p1 0 d) (atV l p0 p1) num den 300000 0 = if atV l (x + d) (y) < 0 then none else if atV l (x + d) (y) * den < own * num then some j else runV (seqV l p0 p1 0 d) (atV l p0 p1) num den (300000 - (j + 1)) (j + 1)) := Lib.hid (by
            rw [HX.out.2.2, runV_step _ _ _ _ j (by omega), HSQ.out, HOWN.out])
          go_upto_region 17 with fail
          refine wp_region_b 9 (by kernel_rfl) (by kernel_rfl) ?_; simp only [List.take, List.drop]
          repeat (first
            | (apply StepsD.run
               · go_simp
                 done
               · intro w' hS K hK
                 have hc := (bcell hS).1
                 have hf := (bcell hS).2
                 have hz := hS.size
                 try simp at hz
                 go_simp
                 try go_bits
                 first
                   | exact hK _ hS
                   | exact hK _ (by repeat (first | (with_reducible exact Below.refl _ _) | (with_reducible assumption) | ((with_reducible refine Below.setCell ?_ ?_ _); rotate_left; · (first | exact Nat.le_refl _ | (simp; done) | (simp; omega) | omega)) | ((with_reducible refine Below.alloc ?_ ?_ _); rotate_left; · (first | exact Nat.le_refl _ | (simp; done) | (simp; omega) | omega)) | (with_reducible apply Below.drew) | (with_reducible apply below_drewN') | (refine Below.trans ?_ (Below.mono (by assumption) (by first | exact Nat.le_refl _ | (simp; done) | (simp; omega) | omega))) | exact Below.refl _ _ | assumption))
               · simp [Act.put]
                 done)
            | (apply StepsD.pass
               · go_simp
                 done
               · simp only [Act.put, List.setIfInBounds_toArray, List.set_cons_succ, List.set_cons_zero]
                 rfl))
          refine StepsD.done ?_
          intro w9 hS
          replace b4 := b4.gr hS
          replace b5 := b5.gr hS
          replace b6 := b6.gr hS
          replace bc := bc.gr hS
          replace hBB := hBB.trans (Below.mono hS (Below.size hBB))
          clear hS
          clear l_b4 x0 x1 x2 l_b5 y0 y1 l_b6 z0 z1 z2 l_bc t0 t1 t2
          have l_b4 := b4.lt
          have l_b5 := b5.lt
          have l_b6 := b6.lt
          have l_bc := bc.lt
          obtain ⟨x0, x1, x2, _⟩ := blk3c b4
          obtain ⟨y0, y1, _⟩ := blk2c b5
          obtain ⟨z0, z1, z2⟩ := blk2c b6
          obtain ⟨t0, t1, t2⟩ := blk2c bc
          go_wp2_with fail
          clear l_b4 x0 x1 x2 l_b5 y0 y1 l_b6 z0 z1 z2 l_bc t0 t1 t2
          replace bc := bc.set_ 0 (.int .i64 (x + d))
          replace bc : Blk (w9.setCell ⟨p, 0, none⟩ (.int .i64 (x + d))) p 25 #[.int .i64 (x + d), .int .i64 (y)] := bc
          replace b4 := b4.far (p := ⟨p, 0, none⟩) n4p (.int .i64 (x + d))
          replace b5 := b5.far (p := ⟨p, 0, none⟩) n5p (.int .i64 (x + d))
          replace b6 := b6.far (p := ⟨p, 0, none⟩) n6p (.int .i64 (x + d))
          replace hBB := hBB.setCell (p := ⟨p, 0, none⟩) (by simp; omega) (.int .i64 (x + d))
          obtain ⟨v, hv⟩ : ∃ v, atV l (x + d) (y) = v := ⟨_, rfl⟩
          have hbd2 := atV_bd HG.out (x + d) (y)
          have hkn2 := fun h => atV_known HG.out (show 0 ≤ atV l (x + d) (y) from h)
          rw [hv] at HRS hbd2 hkn2
          have HV9 := Lib.hid hv
          have HKN2 := Lib.hid hkn2
          clear hv HSQ hkn2
          generalize (w9.setCell ⟨p, 0, none⟩ (.int .i64 (x + d))) = wz at *
          have l_b4 := b4.lt
          have l_b5 := b5.lt
          have l_b6 := b6.lt
          have l_bc := bc.lt
          obtain ⟨x0, x1, x2, _⟩ := blk3c b4
          obtain ⟨y0, y1, _⟩ := blk2c b5
          obtain ⟨z0, z1, z2⟩ := blk2c b6
          obtain ⟨t0, t1, t2⟩ := blk2c bc
          refine (refAt_any l A cap B (x + d) (y) _ (hl.below hBB hB) (by have := Below.size hBB; omega) HG (by omega) (by omega)).mono ?_
          rw [HV9.out]
          rintro e wa ⟨rfl, hBa⟩
          clear l_b4 x0 x1 x2 l_b5 y0 y1 l_b6 z0 z1 z2 l_bc t0 t1 t2
          replace bc := bc.gr hBa
          replace b4 := b4.gr hBa
          replace b5 := b5.gr hBa
          replace b6 := b6.gr hBa
          replace hBB := hBB.trans (hBa.mono (Below.size hBB))
          clear hBa
          have l_b4 := b4.lt
          have l_b5 := b5.lt
          have l_b6 := b6.lt
          have l_bc := bc.lt
          obtain ⟨x0, x1, x2, _⟩ := blk3c b4
          obtain ⟨y0, y1, _⟩ := blk2c b5
          obtain ⟨z0, z1, z2⟩ := blk2c b6
          obtain ⟨t0, t1, t2⟩ := blk2c bc
          by_cases hun : v < 0
          · have HV3 : Hid (dropV l p0 p1 0 num den = ⟨0, 0, 14⟩) := Lib.hid (by rw [HV.out, HN2.out (by rw [HRS.out, if_pos hun])])
            go_wp2
            obtain ⟨u0, u1⟩ := ret2 b6 (.int .i64 0) (.int .i64 0)
            rw [HV3.out]
            exact bodyPost_ret (v := .tuple #[.agg #[.int .i64 0, .int .i64 0], .int .i64 14]) (by simp [results, Tryz.results29, go_sem, u0, u1]) rfl ⟨rfl, (hBB.setCell g6 _).setCell g6 _⟩
          · obtain ⟨kx1, kx2, ky1, ky2⟩ := HKN2.out (by omega)
            have m1 := mul_bd0 (show 0 ≤ v by omega) hbd2.2 (show 0 ≤ den by omega) r3
            have m2 := mul_bd0 (show 0 ≤ own by omega) hbd.2 (show 0 ≤ num by omega) (show num ≤ 1000 by omega)
            by_cases hbr : v * den < own * num
            · have HST : Hid (dropSt l p0 p1 0 num den (k + 1) (L + j)) := Lib.hid (HN1.out j (by rw [HRS.out, if_neg hun, if_pos hbr]))
              go_wp2
              refine ⟨⟨k + 1, L + j, by rw [← hdk]; congr 1; omega, rfl, by omega, by omega, HST, b4, b5, b6, hBB⟩, by simp [intOf]; omega⟩
            · have HRN : Hid (runV (seqV l p0 p1 0 d) (atV l p0 p1) num den 300000 0 = runV (seqV l p0 p1 0 d) (atV l p0 p1) num den (300000 - (j + 1)) (j + 1)) := Lib.hid (by rw [HRS.out, if_neg hun, if_neg hbr])
              clear HRS
              go_wp2
              refine ⟨⟨j + 1, x + d, y, by simp; omega, bc, Lib.hid ⟨HQW.out.1.symm, HQW.out.2.symm, HRN.out⟩, by omega, by omega, b4, b5, b6, hBB⟩, by simp [intOf]; omega⟩
      · obtain rfl : k = 2 := by omega
        have HV3 : Hid (dropV l p0 p1 0 num den = ⟨(L : Int), (L : Int) + 2, 0⟩) := Lib.hid (by rw [HV.out, dropSt_two HS.out])
        go_wp2
        obtain ⟨u0, u1⟩ := ret2 b6 (.int .i64 (L : Int)) (.int .i64 ((L : Int) + 2))
        rw [HV3.out]
        exact bodyPost_ret (v := .tuple #[.agg #[.int .i64 (L : Int), .int .i64 ((L : Int) + 2)], .int .i64 0]) (by simp [results, Tryz.results29, go_sem, u0, u1]) rfl ⟨rfl, (hBB.setCell g6 _).setCell g6 _⟩
  · obtain ⟨q3v, hq3⟩ : ∃ b, lowB num den = b := ⟨_, rfl⟩
    have Q3 := Lib.hid hq3; clear hq3
    go_wp2_with fail
    refine (bIsLowest_any _ _ HN.out HD.out _).mono ?_
    rw [Q3.out]
    rintro e wc3 ⟨rfl, hBc3⟩
    replace b4 := b4.gr hBc3
    replace b5 := b5.gr hBc3
    replace b6 := b6.gr hBc3
    replace hBB := hBB.trans (Below.mono hBc3 (Below.size hBB))
    clear hBc3
    clear l_b4 x0 x1 x2 l_b5 y0 y1 l_b6 z0 z1 z2
    have l_b4 := b4.lt
    have l_b5 := b5.lt
    have l_b6 := b6.lt
    obtain ⟨x0, x1, x2, _⟩ := blk3c b4
    obtain ⟨y0, y1, _⟩ := blk2c b5
    obtain ⟨z0, z1, z2⟩ := blk2c b6
    cases q3v
    · have HV : Hid (dropV l p0 p1 1 num den = ⟨0, 0, 3⟩) := Lib.hid (by rw [HV1'.out, if_pos Q3.out])
      go_wp2
      obtain ⟨u0, u1⟩ := ret2 b6 (.int .i64 0) (.int .i64 0)
      rw [HV.out]
      exact bodyPost_ret (v := .tuple #[.agg #[.int .i64 0, .int .i64 0], .int .i64 3]) (by simp [results, Tryz.results29, go_sem, u0, u1]) rfl ⟨rfl, (hBB.setCell g6 _).setCell g6 _⟩
    by_cases q4 : num < 1 ∨ den < num ∨ 1000 < den
    · have HV : Hid (dropV l p0 p1 1 num den = ⟨0, 0, 2⟩) := Lib.hid (by rw [HV1'.out, if_neg (by rw [Q3.out]; decide), if_pos q4])
      have q5 : wi num 1 den = false ∨ (wi num 1 den = true ∧ 1000 < den) := by simp [wi]; omega
      clear q4
      rcases q5 with q5 | ⟨q5, q6⟩
      all_goals
        go_wp2_with (go_at_call 27; refine (bWithin_any _ _ _ _).mono ?_; rintro e w1 ⟨rfl, rfl⟩)
        obtain ⟨u0, u1⟩ := ret2 b6 (.int .i64 0) (.int .i64 0)
        rw [HV.out]
        exact bodyPost_ret (v := .tuple #[.agg #[.int .i64 0, .int .i64 0], .int .i64 2]) (by simp [results, Tryz.results29, go_sem, u0, u1]) rfl ⟨rfl, (hBB.setCell g6 _).setCell g6 _⟩
    have r1 : 1 ≤ num := by omega
    have r2 : num ≤ den := by omega
    have r3 : den ≤ 1000 := by omega
    have q5 : wi num 1 den = true := by simp [wi]; omega
    have HV1 : Hid (dropV l p0 p1 1 num den = if atV l p0 p1 < 0 then ⟨0, 0, 6⟩ else if atV l p0 p1 = 0 then ⟨0, 0, 11⟩ else
      bothV l p0 p1 1 num den) := Lib.hid (by rw [HV1'.out, if_neg (by rw [Q3.out]; decide), if_neg q4])
    clear q4 HV1'
    go_wp2_with fail
    refine (bWithin_any _ _ _ _).mono ?_
    rw [q5]
    rintro e w1 ⟨rfl, rfl⟩
    clear q5
    obtain ⟨own, hown⟩ : ∃ own, atV l p0 p1 = own := ⟨_, rfl⟩
    have HOWN := Lib.hid hown
    have hkn := fun h => atV_known HG.out (show 0 ≤ atV l p0 p1 from h)
    have hbd := atV_bd HG.out p0 p1
    rw [hown] at hkn hbd
    have hHKN := Lib.hid hkn
    clear hown hkn
    go_wp2_with fail
    refine (refAt_any l A cap B p0 p1 _ (hl.below hBB hB) (by have := Below.size hBB; omega) HG (by omega) (by omega)).mono ?_
    rw [HOWN.out]
    rintro e wc4 ⟨rfl, hBc4⟩
    replace b4 := b4.gr hBc4
    replace b5 := b5.gr hBc4
    replace b6 := b6.gr hBc4
    replace hBB := hBB.trans (Below.mono hBc4 (Below.size hBB))
    clear hBc4
    clear l_b4 x0 x1 x2 l_b5 y0 y1 l_b6 z0 z1 z2
    have l_b4 := b4.lt
    have l_b5 := b5.lt
    have l_b6 := b6.lt
    obtain ⟨x0, x1, x2, _⟩ := blk3c b4
    obtain ⟨y0, y1, _⟩ := blk2c b5
    obtain ⟨z0, z1, z2⟩ := blk2c b6
    by_cases k0 : own < 0
    · have HV : Hid (dropV l p0 p1 1 num den = ⟨0, 0, 6⟩) := Lib.hid (by rw [HV1.out, HOWN.out, if_pos k0])
      go_wp2
      obtain ⟨u0, u1⟩ := ret2 b6 (.int .i64 0) (.int .i64 0)
      rw [HV.out]
      exact bodyPost_ret (v := .tuple #[.agg #[.int .i64 0, .int .i64 0], .int .i64 6]) (by simp [results, Tryz.results29, go_sem, u0, u1]) rfl ⟨rfl, (hBB.setCell g6 _).setCell g6 _⟩
    by_cases k1 : own = 0
    · have HV : Hid (dropV l p0 p1 1 num den = ⟨0, 0, 11⟩) := Lib.hid (by rw [HV1.out, HOWN.out, if_neg k0, if_pos k1])
      subst k1
      go_wp2
      obtain ⟨u0, u1⟩ := ret2 b6 (.int .i64 0) (.int .i64 0)
      rw [HV.out]
      exact bodyPost_ret (v := .tuple #[.agg #[.int .i64 0, .int .i64 0], .int .i64 11]) (by simp [results, Tryz.results29, go_sem, u0, u1]) rfl ⟨rfl, (hBB.setCell g6 _).setCell g6 _⟩
    have HV : Hid (dropV l p0 p1 1 num den = bothV l p0 p1 1 num den) := Lib.hid (by rw [HV1.out, HOWN.out, if_neg k0, if_neg k1])
    obtain ⟨kn1, kn2, kn3, kn4⟩ := hHKN.out (by omega)
    have k3 : (own == 0) = false := by simpa using k1
    clear HV1 k1 hHKN
    go_wp2
    clear l_b4 x0 x1 x2 l_b5 y0 y1 l_b6 z0 z1 z2
    go_loopw [9, 10] (fun s9 s10 wr => ∃ k L : Nat, s10 = .int .i64 (2 * (k : Int) - 1) ∧ s9 = .int .i64 L ∧ k ≤ 2 ∧ L ≤ k * 200300 ∧ Hid (dropSt l p0 p1 1 num den k L) ∧ Blk wr w.heap.size 43 #[.int .i64 p0, .int .i64 p1, .int .i64 1] ∧ Blk wr S5 45 #[.int .i64 num, .int .i64 den] ∧ Blk wr S6 48 #[.int .i64 0, .int .i64 0] ∧ Below w.heap.size w wr) (fun _ s10 _ => (5 - intOf s10).toNat)
    case atStart => exact ⟨0, 0, by simp, rfl, by omega, by omega, Lib.hid (.inl ⟨rfl, rfl⟩), b4, b5, b6, hBB⟩
    case round =>
      clear b4 b5 b6 hBB
      obtain ⟨k, L, rfl, rfl, hk, hL, HS, b4, b5, b6, hBB⟩ := hrel
      have l_b4 := b4.lt
      have l_b5 := b5.lt
      have l_b6 := b6.lt
      obtain ⟨x0, x1, x2, _⟩ := blk3c b4
      obtain ⟨y0, y1, _⟩ := blk2c b5
      obtain ⟨z0, z1, z2⟩ := blk2c b6
      by_cases hlt : k < 2
      · obtain ⟨d, hd, H1, H2⟩ := dropSt_step HS.out hlt
        have hdk : 2 * (k : Int) - 1 = d := by omega
        rw [hdk]
        have HN1 := Lib.hid H1; have HN2 := Lib.hid H2
        have hd' : -1 ≤ d ∧ d ≤ 1 ∧ d ≠ 0 := by omega
        clear H1 H2 hd
        have HXS : Hid (∀ (j : Nat) (x y : Int), x = prV p0 1 d j → y = pcV p1 1 d j → prV p0 1 d (j + 1) = x ∧ pcV p1 1 d (j + 1) = y + d) := Lib.hid (fun j x y h1 h2 => by
          unfold prV at *; unfold pcV at *; simp at h1 h2 ⊢; rw [h1, h2]; rw [Int.mul_add]; omega)
        have HJB : Hid (∀ (j : Nat) (x y : Int), x = prV p0 1 d j → y = pcV p1 1 d j → -100000 ≤ x → x ≤ 100023 → -100000 ≤ y → y ≤ 100023 → j ≤ 200023) := Lib.hid (fun j x y h1 h2 a1 a2 a3 a4 => by
          unfold prV at h1; unfold pcV at h2; simp at h1 h2
          rcases (show d = -1 ∨ d = 1 by omega) with rfl | rfl <;> omega)
        go_wp2
        have hpS0 : S6 < wr.heap.size := b6.lt
        have bc := Blk.new wr 25 #[.int .i64 p0, .int .i64 p1]
        replace b4 := b4.alloc (.cells #[.int .i64 p0, .int .i64 p1] 25 (0, 0))
        replace b5 := b5.alloc (.cells #[.int .i64 p0, .int .i64 p1] 25 (0, 0))
        replace b6 := b6.alloc (.cells #[.int .i64 p0, .int .i64 p1] 25 (0, 0))
        replace hBB := hBB.alloc (Below.size hBB) (.cells #[.int .i64 p0, .int .i64 p1] 25 (0, 0))
        clear l_b4 x0 x1 x2 l_b5 y0 y1 l_b6 z0 z1 z2
        have l_b4 := b4.lt
        have l_b5 := b5.lt
        have l_b6 := b6.lt
        have l_bc := bc.lt
        obtain ⟨x0, x1, x2, _⟩ := blk3c b4
        obtain ⟨y0, y1, _⟩ := blk2c b5
        obtain ⟨z0, z1, z2⟩ := blk2c b6
        obtain ⟨t0, t1, t2⟩ := blk2c bc
        generalize hpp : wr.heap.size = p at *
        generalize (wr.alloc (.cells #[.int .i64 p0, .int .i64 p1] 25)) = wx at *
        clear l_b4 x0 x1 x2 l_b5 y0 y1 l_b6 z0 z1 z2 l_bc t0 t1 t2
        go_loopw [9] (fun s9 wq => ∃ (j : Nat) (x y : Int), s9 = .int .i64 ((L + j : Nat) : Int) ∧ Blk wq p 25 #[.int .i64 x, .int .i64 y] ∧
          Hid (x = prV p0 1 d j ∧ y = pcV p1 1 d j ∧ runV (seqV l p0 p1 1 d) (atV l p0 p1) num den 300000 0 = runV (seqV l p0 p1 1 d) (atV l p0 p1) num den (300000 - j) j) ∧ (-100000 ≤ x ∧ x ≤ 100023) ∧ (-100000 ≤ y ∧ y ≤ 100023) ∧ Blk wq w.heap.size 43 #[.int .i64 p0, .int .i64 p1, .int .i64 1] ∧ Blk wq S5 45 #[.int .i64 num, .int .i64 den] ∧ Blk wq S6 48 #[.int .i64 0, .int .i64 0] ∧ Below w.heap.size w wq) (fun s9 _ => 1000000 - (intOf s9).toNat)
        case atStart => exact ⟨0, p0, p1, by simp, bc, Lib.hid (by unfold prV pcV; simp), by omega, by omega, b4, b5, b6, hBB⟩
        case round =>
          clear b4 b5 b6 hBB bc
          obtain ⟨j, x, y, rfl, bc, HX, hx, hy, b4, b5, b6, hBB⟩ := hrel
          have l_b4 := b4.lt
          have l_b5 := b5.lt
          have l_b6 := b6.lt
          have l_bc := bc.lt
          obtain ⟨x0, x1, x2, _⟩ := blk3c b4
          obtain ⟨y0, y1, _⟩ := blk2c b5
          obtain ⟨z0, z1, z2⟩ := blk2c b6
          obtain ⟨t0, t1, t2⟩ := blk2c bc
          have hjb := HJB.out j x y HX.out.1 HX.out.2.1 hx.1 hx.2 hy.1 hy.2
          have n4p : w.heap.size ≠ p := by omega
          have n5p : S5 ≠ p := by omega
          have n6p : S6 ≠ p := by omega
          have HQW := Lib.hid (HXS.out j x y HX.out.1 HX.out.2.1)
          have HSQ : Hid (seqV l p0 p1 1 d j = atV l (x) (y + d)) := Lib.hid (by unfold seqV; rw [HQW.out.1, HQW.out.2])
          have HRS : Hid (runV (seqV l p0 p1 1 d) (atV l p0 p1) num den 300000 0 = if atV l (x) (y + d) < 0 then none else if atV l (x) (y + d) * den < own * num then some j else runV (seqV l p0 p1 1 d) (atV l p0 p1) num den (300000 - (j + 1)) (j + 1)) := Lib.hid (by
            rw [HX.out.2.2, runV_step _ _ _ _ j (by omega), HSQ.out, HOWN.out])
          go_upto_region 17 with fail
          refine wp_region_b 9 (by kernel_rfl) (by kernel_rfl) ?_; simp only [List.take, List.drop]
          repeat (first
            | (apply StepsD.run
               · go_simp
                 done
               · intro w' hS K hK
                 have hc := (bcell hS).1
                 have hf := (bcell hS).2
                 have hz := hS.size
                 try simp at hz
                 go_simp
                 try go_bits
                 first
                   | exact hK _ hS
                   | exact hK _ (by repeat (first | (with_reducible exact Below.refl _ _) | (with_reducible assumption) | ((with_reducible refine Below.setCell ?_ ?_ _); rotate_left; · (first | exact Nat.le_refl _ | (simp; done) | (simp; omega) | omega)) | ((with_reducible refine Below.alloc ?_ ?_ _); rotate_left; · (first | exact Nat.le_refl _ | (simp; done) | (simp; omega) | omega)) | (with_reducible apply Below.drew) | (with_reducible apply below_drewN') | (refine Below.trans ?_ (Below.mono (by assumption) (by first | exact Nat.le_refl _ | (simp; done) | (simp; omega) | omega))) | exact Below.refl _ _ | assumption))
               · simp [Act.put]
                 done)
            | (apply StepsD.pass
               · go_simp
                 done
               · simp only [Act.put, List.setIfInBounds_toArray, List.set_cons_succ, List.set_cons_zero]
                 rfl))
          refine StepsD.done ?_
          intro w9 hS
          replace b4 := b4.gr hS
          replace b5 := b5.gr hS
          replace b6 := b6.gr hS
          replace bc := bc.gr hS
          replace hBB := hBB.trans (Below.mono hS (Below.size hBB))
          clear hS
          clear l_b4 x0 x1 x2 l_b5 y0 y1 l_b6 z0 z1 z2 l_bc t0 t1 t2
          have l_b4 := b4.lt
          have l_b5 := b5.lt
          have l_b6 := b6.lt
          have l_bc := bc.lt
          obtain ⟨x0, x1, x2, _⟩ := blk3c b4
          obtain ⟨y0, y1, _⟩ := blk2c b5
          obtain ⟨z0, z1, z2⟩ := blk2c b6
          obtain ⟨t0, t1, t2⟩ := blk2c bc
          go_wp2_with fail
          clear l_b4 x0 x1 x2 l_b5 y0 y1 l_b6 z0 z1 z2 l_bc t0 t1 t2
          replace bc := bc.set_ 1 (.int .i64 (y + d))
          replace bc : Blk (w9.setCell ⟨p, 1, none⟩ (.int .i64 (y + d))) p 25 #[.int .i64 (x), .int .i64 (y + d)] := bc
          replace b4 := b4.far (p := ⟨p, 1, none⟩) n4p (.int .i64 (y + d))
          replace b5 := b5.far (p := ⟨p, 1, none⟩) n5p (.int .i64 (y + d))
          replace b6 := b6.far (p := ⟨p, 1, none⟩) n6p (.int .i64 (y + d))
          replace hBB := hBB.setCell (p := ⟨p, 1, none⟩) (by simp; omega) (.int .i64 (y + d))
          obtain ⟨v, hv⟩ : ∃ v, atV l (x) (y + d) = v := ⟨_, rfl⟩
          have hbd2 := atV_bd HG.out (x) (y + d)
          have hkn2 := fun h => atV_known HG.out (show 0 ≤ atV l (x) (y + d) from h)
          rw [hv] at HRS hbd2 hkn2
          have HV9 := Lib.hid hv
          have HKN2 := Lib.hid hkn2
          clear hv HSQ hkn2
          generalize (w9.setCell ⟨p, 1, none⟩ (.int .i64 (y + d))) = wz at *
          have l_b4 := b4.lt
          have l_b5 := b5.lt
          have l_b6 := b6.lt
          have l_bc := bc.lt
          obtain ⟨x0, x1, x2, _⟩ := blk3c b4
          obtain ⟨y0, y1, _⟩ := blk2c b5
          obtain ⟨z0, z1, z2⟩ := blk2c b6
          obtain ⟨t0, t1, t2⟩ := blk2c bc
          refine (refAt_any l A cap B (x) (y + d) _ (hl.below hBB hB) (by have := Below.size hBB; omega) HG (by omega) (by omega)).mono ?_
          rw [HV9.out]
          rintro e wa ⟨rfl, hBa⟩
          clear l_b4 x0 x1 x2 l_b5 y0 y1 l_b6 z0 z1 z2 l_bc t0 t1 t2
          replace bc := bc.gr hBa
          replace b4 := b4.gr hBa
          replace b5 := b5.gr hBa
          replace b6 := b6.gr hBa
          replace hBB := hBB.trans (hBa.mono (Below.size hBB))
          clear hBa
          have l_b4 := b4.lt
          have l_b5 := b5.lt
          have l_b6 := b6.lt
          have l_bc := bc.lt
          obtain ⟨x0, x1, x2, _⟩ := blk3c b4
          obtain ⟨y0, y1, _⟩ := blk2c b5
          obtain ⟨z0, z1, z2⟩ := blk2c b6
          obtain ⟨t0, t1, t2⟩ := blk2c bc
          by_cases hun : v < 0
          · have HV3 : Hid (dropV l p0 p1 1 num den = ⟨0, 0, 14⟩) := Lib.hid (by rw [HV.out, HN2.out (by rw [HRS.out, if_pos hun])])
            go_wp2
            obtain ⟨u0, u1⟩ := ret2 b6 (.int .i64 0) (.int .i64 0)
            rw [HV3.out]
            exact bodyPost_ret (v := .tuple #[.agg #[.int .i64 0, .int .i64 0], .int .i64 14]) (by simp [results, Tryz.results29, go_sem, u0, u1]) rfl ⟨rfl, (hBB.setCell g6 _).setCell g6 _⟩
          · obtain ⟨kx1, kx2, ky1, ky2⟩ := HKN2.out (by omega)
            have m1 := mul_bd0 (show 0 ≤ v by omega) hbd2.2 (show 0 ≤ den by omega) r3
            have m2 := mul_bd0 (show 0 ≤ own by omega) hbd.2 (show 0 ≤ num by omega) (show num ≤ 1000 by omega)
            by_cases hbr : v * den < own * num
            · have HST : Hid (dropSt l p0 p1 1 num den (k + 1) (L + j)) := Lib.hid (HN1.out j (by rw [HRS.out, if_neg hun, if_pos hbr]))
              go_wp2
              refine ⟨⟨k + 1, L + j, by rw [← hdk]; congr 1; omega, rfl, by omega, by omega, HST, b4, b5, b6, hBB⟩, by simp [intOf]; omega⟩
            · have HRN : Hid (runV (seqV l p0 p1 1 d) (atV l p0 p1) num den 300000 0 = runV (seqV l p0 p1 1 d) (atV l p0 p1) num den (300000 - (j + 1)) (j + 1)) := Lib.hid (by rw [HRS.out, if_neg hun, if_neg hbr])
              clear HRS
              go_wp2
              refine ⟨⟨j + 1, x, y + d, by simp; omega, bc, Lib.hid ⟨HQW.out.1.symm, HQW.out.2.symm, HRN.out⟩, by omega, by omega, b4, b5, b6, hBB⟩, by simp [intOf]; omega⟩
      · obtain rfl : k = 2 := by omega
        have HV3 : Hid (dropV l p0 p1 1 num den = ⟨(L : Int), (L : Int) + 2, 0⟩) := Lib.hid (by rw [HV.out, dropSt_two HS.out])
        go_wp2
        obtain ⟨u0, u1⟩ := ret2 b6 (.int .i64 (L : Int)) (.int .i64 ((L : Int) + 2))
        rw [HV3.out]
        exact bodyPost_ret (v := .tuple #[.agg #[.int .i64 (L : Int), .int .i64 ((L : Int) + 2)], .int .i64 0]) (by simp [results, Tryz.results29, go_sem, u0, u1]) rfl ⟨rfl, (hBB.setCell g6 _).setCell g6 _⟩
end Go.Proofs.YtidgeagpgllkeaaGreat
