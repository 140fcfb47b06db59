/- Contract: flaw.CheckPairs. -/
import Derived.Test.YtidgeagpgllkeaaGreatZcFpC
import Derived.Test.YtidgeagpgllkeaaGreatZcFpD
import Derived.Test.YtidgeagpgllkeaaGreatZcFcP
import Derived.Test.YtidgeagpgllkeaaGreatZcFiB
namespace Go.Proofs.YtidgeagpgllkeaaGreat
open Go.RowKit

def relV (l0 l1 : List Mk) (slack : Int) (a b : Int) : Bool := alikeV (l0[a.toNat]?.getD mkZ) (l1[b.toNat]?.getD mkZ) slack
/-- Which have a partner: just those that have been met. -/
def Taken (c : Int × Int → Int) (F : List Int) (seen : List (Int × Int)) : Prop := ∀ (a : Nat) (x : Int), F[a]? = some x → decide (0 ≤ x) = seen.any (fun q => decide (c q = (a : Int)))
theorem Taken.start (c : Int × Int → Int) (n : Nat) : Taken c (List.replicate n (-1)) [] := fun a x h => by
  rw [List.getElem?_replicate] at h
  split at h
  · obtain rfl : -1 = x := by simpa using h
    rfl
  · cases h
theorem Taken.add {c : Int × Int → Int} {F : List Int} {seen : List (Int × Int)} (h : Taken c F seen) {p : Int × Int} {i : Nat} {x : Int} (hp : c p = (i : Int)) (hx : 0 ≤ x) : Taken c (F.set i x) (seen ++ [p]) := fun a y hy => by
  rw [List.any_append, List.any_cons, List.any_nil, hp]
  rw [List.getElem?_set] at hy
  split at hy
  · rename_i e
    subst e
    split at hy
    · obtain rfl : x = y := by simpa using hy
      simp [hx]
    · cases hy
  · rename_i e
    rw [h a y hy]
    have : ((i : Int) = (a : Int)) = False := by simp; omega
    simp [this]
theorem pairsB_at {n m : Nat} {R : Int → Int → Bool} {P : List (Int × Int)} {k : Nat} {p : Int × Int} (h : P[k]? = some p) : pairsB n m R P k = pairB n m R (P.take k) p := by unfold pairsB; rw [h]; rfl
theorem marks_small {l : List Mk} (h : (marksE l).2 = 0) : ∀ m ∈ l, MkS m := fun m hm => by
  obtain ⟨h1, h2⟩ := marksE_zero h
  obtain ⟨j, hj, rfl⟩ := List.getElem_of_mem hm
  exact (markE_zero (h2 j hj hj).1).1
theorem pairB_out {n m : Nat} {R : Int → Int → Bool} {seen : List (Int × Int)} {p : Int × Int} (h : (wi p.1 0 ((n : Int) - 1) && wi p.2 0 ((m : Int) - 1)) = false) : pairB n m R seen p = 6 := by unfold pairB; rw [if_pos h]
theorem pairB_two {n m : Nat} {R : Int → Int → Bool} {seen : List (Int × Int)} {p : Int × Int} (h : (wi p.1 0 ((n : Int) - 1) && wi p.2 0 ((m : Int) - 1)) = true) (h2 : (seen.any (fun q => decide (q.1 = p.1)) || seen.any (fun q => decide (q.2 = p.2))) = true) : pairB n m R seen p = 24 := by unfold pairB; rw [if_neg (by rw [h]; decide), if_pos h2]
theorem pairB_far {n m : Nat} {R : Int → Int → Bool} {seen : List (Int × Int)} {p : Int × Int} (h : (wi p.1 0 ((n : Int) - 1) && wi p.2 0 ((m : Int) - 1)) = true) (h2 : (seen.any (fun q => decide (q.1 = p.1)) || seen.any (fun q => decide (q.2 = p.2))) = false) (h3 : R p.1 p.2 = false) : pairB n m R seen p = 18 := by unfold pairB; rw [if_neg (by rw [h]; decide), if_neg (by rw [h2]; decide), if_pos h3]
theorem pairB_fine {n m : Nat} {R : Int → Int → Bool} {seen : List (Int × Int)} {p : Int × Int} (h : (wi p.1 0 ((n : Int) - 1) && wi p.2 0 ((m : Int) - 1)) = true) (h2 : (seen.any (fun q => decide (q.1 = p.1)) || seen.any (fun q => decide (q.2 = p.2))) = false) (h3 : R p.1 p.2 = true) : pairB n m R seen p = 0 := by unfold pairB; rw [if_neg (by rw [h]; decide), if_neg (by rw [h2]; decide), if_neg (by rw [h3]; decide)]
def cpE (l0 l1 : List Mk) (slack : Int) (P : List (Int × Int)) : Int := if openE l0 l1 slack = 0 then pairsE l0.length l1.length (relV l0 l1 slack) P else openE l0 l1 slack
def cpN (l0 l1 : List Mk) (slack : Int) (P : List (Int × Int)) : Int := if cpE l0 l1 slack P = 0 then (P.length : Int) else 0
theorem cp_bad {l0 l1 : List Mk} {slack : Int} {P : List (Int × Int)} {k : Nat} {p : Int × Int} {e : Int} (ho : openE l0 l1 slack = 0) (hz : ∀ j, j < k → pairsB l0.length l1.length (relV l0 l1 slack) P j = 0) (hp : P[k]? = some p) (he : pairB l0.length l1.length (relV l0 l1 slack) (P.take k) p = e) (hn : e ≠ 0) : cpE l0 l1 slack P = e ∧ cpN l0 l1 slack P = 0 := by
  have hk : k < P.length := (List.getElem?_eq_some_iff.1 hp).1
  have h1 : pairsE l0.length l1.length (relV l0 l1 slack) P = e := by
    unfold pairsE
    rw [firstBad_at hz (by rw [pairsB_at hp, he]; exact hn) hk, pairsB_at hp, he]
  have h2 : cpE l0 l1 slack P = e := by unfold cpE; rw [if_pos ho, h1]
  exact ⟨h2, by unfold cpN; rw [h2, if_neg hn]⟩
theorem cp_good {l0 l1 : List Mk} {slack : Int} {P : List (Int × Int)} (ho : openE l0 l1 slack = 0) (hz : ∀ j, j < P.length → pairsB l0.length l1.length (relV l0 l1 slack) P j = 0) : cpE l0 l1 slack P = 0 ∧ cpN l0 l1 slack P = P.length := by
  have h2 : cpE l0 l1 slack P = 0 := by unfold cpE; rw [if_pos ho]; exact firstBad_pre hz
  exact ⟨h2, by unfold cpN; rw [if_pos h2]⟩
theorem cp_open {l0 l1 : List Mk} {slack : Int} {P : List (Int × Int)} (ho : openE l0 l1 slack ≠ 0) : cpE l0 l1 slack P = openE l0 l1 slack ∧ cpN l0 l1 slack P = 0 := by
  have h2 : cpE l0 l1 slack P = openE l0 l1 slack := by unfold cpE; rw [if_neg ho]
  exact ⟨h2, by unfold cpN; rw [h2, if_neg ho]⟩

set_option maxRecDepth 100000 in
set_option maxHeartbeats 8000000 in
theorem checkPairs_any (l0 l1 : List Mk) (A0 A1 A2 : Option Addr) (c0 c1 c2 B : Nat) (slack : Int) (P : List (Int × Int)) (w : World) (h0 : MkOk l0 A0 B w) (h1 : MkOk l1 A1 B w) (hP : Row w B 2 A2 P.length (cellsC P)) (hc0 : l0.length ≤ c0) (hc1 : l1.length ≤ c1) (hB : B ≤ w.heap.size) (hn0 : l0.length ≤ 1000) (hn1 : l1.length ≤ 1000) (hPn : P.length ≤ 1000) :
    Calls Tryz.prog 74 #[.agg #[.slice A0 l0.length c0, .slice A1 l1.length c1], .int .i64 slack, .slice A2 P.length c2] w fun e w' => e = .returned (.tuple #[.int .i64 (cpN l0 l1 slack P), .int .i64 (cpE l0 l1 slack P)]) ∧ Below w.heap.size w w' := by
  have b3 := Blk.new w 124 #[.slice A0 l0.length c0, .slice A1 l1.length c1]
  have hBB : Below w.heap.size w (w.alloc (.cells #[.slice A0 l0.length c0, .slice A1 l1.length c1] 124)) := (by repeat (first | (with_reducible exact Below.refl _ _) | (with_reducible assumption) | ((with_reducible refine Below.setCell ?_ ?_ _); rotate_left; · (first | exact Nat.le_refl _ | (simp; done) | (simp; omega) | omega)) | ((with_reducible refine Below.alloc ?_ ?_ _); rotate_left; · (first | exact Nat.le_refl _ | (simp; done) | (simp; omega) | omega)) | (with_reducible apply Below.drew) | (with_reducible apply below_drewN') | (refine Below.trans ?_ (Below.mono (by assumption) (by first | exact Nat.le_refl _ | (simp; done) | (simp; omega) | omega))) | exact Below.refl _ _ | assumption))
  obtain ⟨d0, d1, d2⟩ := blk2c b3
  have l3 := b3.lt
  obtain ⟨E, hE⟩ : ∃ E, cpE l0 l1 slack P = E := ⟨_, rfl⟩
  obtain ⟨NN, hNN⟩ : ∃ N, cpN l0 l1 slack P = N := ⟨_, rfl⟩
  rw [hE, hNN]
  go_enter Tryz.func74, Tryz.ntmps74
  go_wp2_with fail
  obtain ⟨W, hW⟩ : ∃ W, w.alloc (.cells #[.slice A0 l0.length c0, .slice A1 l1.length c1] 124) = W := ⟨_, rfl⟩
  rw [hW] at b3 hBB d0 d1 d2 l3 ⊢
  clear hW
  have hzW := Below.size hBB
  by_cases he : openE l0 l1 slack = 0
  case neg =>
    obtain ⟨x1, x2⟩ := cp_open (P := P) he
    rw [hE] at x1
    rw [hNN] at x2
    subst x2
    subst x1
    clear hE hNN
    refine (openLists_bad l0 l1 A0 A1 c0 c1 B slack _ (h0.below hBB hB) (h1.below hBB hB) hc0 hc1 (by omega) he).mono ?_
    rintro e w1 ⟨rfl, hB1⟩
    have hne : (openE l0 l1 slack != 0) = true := by simpa using he
    go_wp2
    go_ret2
    exact ⟨rfl, hBB.trans (hB1.mono hzW)⟩
  case pos =>
    have HBAD : Hid (∀ (k : Nat) (p : Int × Int) (e : Int), (∀ j, j < k → pairsB l0.length l1.length (relV l0 l1 slack) P j = 0) → P[k]? = some p → pairB l0.length l1.length (relV l0 l1 slack) (P.take k) p = e → e ≠ 0 → cpE l0 l1 slack P = e ∧ cpN l0 l1 slack P = 0) := Lib.hid (fun k p e a b c d => cp_bad he a b c d)
    have HGOOD : Hid ((∀ j, j < P.length → pairsB l0.length l1.length (relV l0 l1 slack) P j = 0) → cpE l0 l1 slack P = 0 ∧ cpN l0 l1 slack P = P.length) := Lib.hid (cp_good he)
    have hz := (firstE_zero _).1 he
    have HS0 : Hid (∀ m ∈ l0, MkS m) := Lib.hid (marks_small (hz (marksE l0).2 (by simp)))
    have HS1 : Hid (∀ m ∈ l1, MkS m) := Lib.hid (marks_small (hz (marksE l1).2 (by simp)))
    refine (openLists_ok l0 l1 A0 A1 c0 c1 B slack _ (h0.below hBB hB) (h1.below hBB hB) hc0 hc1 (by omega) hn0 hn1 he).mono ?_
    rintro e w1 ⟨q, p0, p1, rfl, M⟩
    have H0 := Lib.hid (h0.row.below hBB hB); have H1 := Lib.hid (h1.row.below hBB hB); have HPR := Lib.hid (hP.below hBB hB)
    have HBB := Lib.hid hBB
    rw [hE, hNN] at HBAD HGOOD
    clear hE hNN he hz hBB h0 h1 hP
    go_wp2
    go_loopw [23] (fun s23 wr => ∃ (k : Nat) (F0 F1 : List Int), k ≤ P.length ∧ s23 = .int .i64 k ∧ Hid (∀ j, j < k → pairsB l0.length l1.length (relV l0 l1 slack) P j = 0) ∧ Hid (Taken (·.1) F0 (P.take k) ∧ Taken (·.2) F1 (P.take k)) ∧ MaM W q p0 p1 (.slice A0 l0.length c0) (.slice A1 l1.length c1) l0.length l1.length slack F0 F1 wr) (fun s23 _ => P.length - (intOf s23).toNat)
    case atStart => exact ⟨0, _, _, Nat.zero_le _, rfl, Lib.hid (fun j hj => by omega), Lib.hid ⟨Taken.start _ _, Taken.start _ _⟩, M⟩
    case round =>
      clear M d0 d1 d2
      obtain ⟨k, F0, F1, hk, rfl, HZ, HT, M⟩ := hrel
      have hx := M.r0.below
      have hzx := Below.size hx
      by_cases hlt : k < P.length
      · have hPW := HPR.out.below hx (show B ≤ W.heap.size by omega)
        obtain ⟨g, o, hA, hg, v0, v1⟩ := cellPair hPW hlt
        obtain ⟨p, hp⟩ : ∃ p, P[k] = p := ⟨_, rfl⟩
        have hpk : P[k]? = some p := by rw [List.getElem?_eq_getElem hlt, hp]
        rw [hp] at v0 v1
        have HPK := Lib.hid hpk
        have hlg : g < wr.heap.size := by omega
        have i1 : ((k : Int) < (P.length : Int)) := by omega
        subst hA
        have b3' := b3.gr hx
        have HB3 : Hid (∀ Z, Gr wr Z → Blk Z w.heap.size 124 #[.slice A0 l0.length c0, .slice A1 l1.length c1]) := Lib.hid (fun Z hZ => b3'.gr hZ)
        clear hp hpk hPW
        by_cases hin : (wi p.1 0 ((l0.length : Int) - 1) && wi p.2 0 ((l1.length : Int) - 1)) = true
        case neg =>
          have hin' : (wi p.1 0 ((l0.length : Int) - 1) && wi p.2 0 ((l1.length : Int) - 1)) = false := by simpa using hin
          obtain ⟨rfl, rfl⟩ := HBAD.out k p 6 HZ.out HPK.out (pairB_out hin') (by decide)
          have b11 := Blk.new wr 25 #[.int .i64 p.1, .int .i64 p.2]
          have hgA : Gr wr (wr.alloc (.cells #[.int .i64 p.1, .int .i64 p.2] 25)) := (Below.refl _ _).alloc (Nat.le_refl _) _
          have b3a := HB3.out _ hgA
          have M1 := M.gr hgA
          have e3 := blk2c b3a
          obtain ⟨d0, d1, d2⟩ := e3
          have l3a := b3a.lt
          go_wp2_with fail
          obtain ⟨wa, hwa⟩ : ∃ wa, wr.alloc (.cells #[.int .i64 p.1, .int .i64 p.2] 25) = wa := ⟨_, rfl⟩
          rw [hwa] at b11 b3a M1 d0 d1 d2 l3a ⊢
          clear hwa hgA v0 v1 M hlg
          obtain ⟨x0, x1, x2⟩ := blk2c b11
          have lx := b11.lt
          have hbe := HBB.out.trans (M1.r0.below.mono hzW)
          cases hw0 : wi p.1 0 ((l0.length : Int) - 1)
          · have Q0 := Lib.hid hw0
            clear hw0 hin hin'
            refine (within_any _ _ _ _).mono ?_
            rw [Q0.out]
            rintro e w1 ⟨rfl, rfl⟩
            go_wp2
            go_ret2
            exact ⟨rfl, hbe⟩
          · have hw1 : wi p.2 0 ((l1.length : Int) - 1) = false := by rw [hw0] at hin'; simpa using hin'
            have Q0 := Lib.hid hw0
            have Q1 := Lib.hid hw1
            clear hw0 hw1 hin hin'
            refine (within_any _ _ _ _).mono ?_
            rw [Q0.out]
            rintro e w1 ⟨rfl, rfl⟩
            go_wp2_with fail
            refine (within_any _ _ _ _).mono ?_
            rw [Q1.out]
            rintro e w1 ⟨rfl, rfl⟩
            go_wp2
            go_ret2
            exact ⟨rfl, hbe⟩
        case pos =>
          obtain ⟨i, j, rfl, hi, hj⟩ : ∃ i j : Nat, p = ((i : Int), (j : Int)) ∧ i < l0.length ∧ j < l1.length := by
            obtain ⟨pa, pb⟩ := p
            simp [wi] at hin
            exact ⟨pa.toNat, pb.toNat, by rw [Prod.mk.injEq]; omega, by omega, by omega⟩
          have hw := hin
          rw [Bool.and_eq_true] at hw
          have Q0 := Lib.hid hw.1
          have Q1 := Lib.hid hw.2
          have HIN := Lib.hid hin
          dsimp only at v0 v1 Q0 Q1
          clear hin hw
          obtain ⟨f0, hf0⟩ : ∃ f, F0[i]? = some f := ⟨F0[i]'(by rw [M.r0.len]; exact hi), List.getElem?_eq_getElem _⟩
          obtain ⟨f1, hf1⟩ : ∃ f, F1[j]? = some f := ⟨F1[j]'(by rw [M.r1.len]; exact hj), List.getElem?_eq_getElem _⟩
          have hT0 := HT.out.1 i f0 hf0
          have hT1 := HT.out.2 j f1 hf1
          have i2 : ((i : Int) < (l0.length : Int)) := by omega
          have j2 : ((j : Int) < (l1.length : Int)) := by omega
          have hsl := M.r0.lt
          have HT0 := Lib.hid hT0
          have HT1 := Lib.hid hT1
          clear hT0 hT1
          have b11 := Blk.new wr 25 #[.int .i64 (i : Int), .int .i64 (j : Int)]
          have hgA : Gr wr (wr.alloc (.cells #[.int .i64 (i : Int), .int .i64 (j : Int)] 25)) := (Below.refl _ _).alloc (Nat.le_refl _) _
          have b3a := HB3.out _ hgA
          have M1 := M.gr hgA
          have e3 := blk2c b3a
          obtain ⟨d0, d1, d2⟩ := e3
          have l3a := b3a.lt
          go_wp2_with fail
          obtain ⟨wa, hwa⟩ : ∃ wa, wr.alloc (.cells #[.int .i64 (i : Int), .int .i64 (j : Int)] 25) = wa := ⟨_, rfl⟩
          rw [hwa] at b11 b3a M1 d0 d1 d2 l3a ⊢
          clear hwa hgA v0 v1 M hlg
          obtain ⟨x0, x1, x2⟩ := blk2c b11
          have lx := b11.lt
          have hbe := HBB.out.trans (M1.r0.below.mono hzW)
          refine (within_any _ _ _ _).mono ?_
          rw [Q0.out]
          rintro e w1 ⟨rfl, rfl⟩
          go_wp2_with fail
          refine (within_any _ _ _ _).mono ?_
          rw [Q1.out]
          rintro e w1 ⟨rfl, rfl⟩
          obtain ⟨z0, z1, z2, z3, z4, zf⟩ := blk5c M1.box
          have lq := M1.box.lt
          have u0 := M1.r0.cell hf0
          have u1 := M1.r1.cell hf1
          have lp0 := M1.r0.lt
          have lp1 := M1.r1.lt
          by_cases hg0 : 0 ≤ f0
          · have hx0 : decide (f0 ≥ 0) = true := decide_eq_true hg0
            have hx0' : decide (0 ≤ f0) = true := decide_eq_true hg0
            obtain ⟨rfl, rfl⟩ := HBAD.out k _ 24 HZ.out HPK.out (pairB_two HIN.out (by have := HT0.out; rw [hx0'] at this; rw [← this]; rfl)) (by decide)
            go_wp2
            go_quiet (fail)
            go_wp2
            go_ret2
            exact ⟨rfl, below_drewN' hbe _⟩
          have hx0 : decide (f0 ≥ 0) = false := decide_eq_false hg0
          have hx0' : decide (0 ≤ f0) = false := decide_eq_false hg0
          by_cases hg1 : 0 ≤ f1
          · have hx1 : decide (f1 ≥ 0) = true := decide_eq_true hg1
            have hx1' : decide (0 ≤ f1) = true := decide_eq_true hg1
            obtain ⟨rfl, rfl⟩ := HBAD.out k _ 24 HZ.out HPK.out (pairB_two HIN.out (by have := HT1.out; rw [hx1'] at this; rw [← this, Bool.or_true])) (by decide)
            go_wp2
            go_quiet (fail)
            go_wp2
            go_ret2
            exact ⟨rfl, below_drewN' hbe _⟩
          have hx1 : decide (f1 ≥ 0) = false := decide_eq_false hg1
          have hx1' : decide (0 ≤ f1) = false := decide_eq_false hg1
          have HNT : Hid (((P.take k).any (fun q => decide (q.1 = ((i : Int), (j : Int)).1)) || (P.take k).any (fun q => decide (q.2 = ((i : Int), (j : Int)).2))) = false) := Lib.hid (by have h0 := HT0.out; have h1 := HT1.out; rw [hx0'] at h0; rw [hx1'] at h1; dsimp only; rw [← h0, ← h1]; rfl)
          go_wp2
          go_quiet (fail)
          clear z0 z1 z2 z3 z4 zf lq u0 u1
          obtain ⟨wd, hwd⟩ : ∃ wd, wa.drewN nq = wd := ⟨_, rfl⟩
          have hgd : Gr wa wd := by rw [← hwd]; exact ⟨rfl, rfl, rfl, Nat.le_refl _, fun _ _ => rfl⟩
          rw [hwd]
          clear hwd x0 x1 x2 d0 d1 d2 l3a lx
          have M2 := M1.gr hgd
          have c11 := b11.gr hgd
          have c3 := b3a.gr hgd
          have hbe2 := HBB.out.trans (M2.r0.below.mono hzW)
          have hb2 := M2.r0.below
          clear M1 b11 b3a hbe hgd
          have hzd := Below.size hb2
          obtain ⟨g0, o0, hA0, hgl0, y0, y1, y2, y3, y4, y5⟩ := mkCells (H0.out.below hb2 (show B ≤ W.heap.size by omega)) hi
          obtain ⟨g1, o1, hA1, hgl1, e0, e1, e2, e3, e4, e5⟩ := mkCells (H1.out.below hb2 (show B ≤ W.heap.size by omega)) hj
          have HSY : Hid (MkS l0[i]) := Lib.hid (HS0.out _ (List.getElem_mem hi))
          have HSX : Hid (MkS l1[j]) := Lib.hid (HS1.out _ (List.getElem_mem hj))
          have hR : relV l0 l1 slack (i : Int) (j : Int) = alikeV l0[i] l1[j] slack := by unfold relV; rw [Int.toNat_natCast, Int.toNat_natCast, List.getElem?_eq_getElem hi, List.getElem?_eq_getElem hj]; rfl
          obtain ⟨x, hx'⟩ : ∃ x, l1[j] = x := ⟨_, rfl⟩
          obtain ⟨y, hy'⟩ : ∃ y, l0[i] = y := ⟨_, rfl⟩
          rw [hx'] at e0 e1 e2 e3 e4 e5 HSX hR
          rw [hy'] at y0 y1 y2 y3 y4 y5 HSY hR
          clear hx' hy'
          subst hA0
          subst hA1
          have lg0 : g0 < wd.heap.size := by omega
          have lg1 : g1 < wd.heap.size := by omega
          obtain ⟨d0, d1, d2⟩ := blk2c c3
          obtain ⟨x0, x1, x2⟩ := blk2c c11
          have l3 := c3.lt
          have lx := c11.lt
          cases hRk : relV l0 l1 slack (i : Int) (j : Int)
          · obtain ⟨rfl, rfl⟩ := HBAD.out k _ 18 HZ.out HPK.out (pairB_far HIN.out HNT.out hRk) (by decide)
            rw [hRk] at hR
            have HA : Hid (alikeV y x slack = false) := Lib.hid hR.symm
            clear hR hRk
            go_upto_region 11 with fail
            refine wp_region_b 16 (by kernel_rfl) (by kernel_rfl) ?_; simp only [List.take, List.drop]
            repeat (first
              | (apply StepsD.run
                 · go_simp
                   done
                 · intro w' hS K hK
                   have hc := (bcell hS).1
                   have hf := (bcell hS).2
                   have hz := hS.size
                   try simp at hz
                   go_simp
                   try go_bits
                   first
                     | exact hK _ hS
                     | (go_at_call 127; (with_reducible refine (alike_any y x slack HSY.out HSX.out _).mono ?_); rw [HA.out]; rintro e w1 ⟨rfl, hB1⟩; obtain ⟨hc1, hf1⟩ := bcell hB1; have hz1 := hB1.size; (try simp at hz1); exact hK _ (Below.trans hS (Below.mono hB1 (by first | exact Nat.le_refl _ | (simp; done) | (simp; omega) | omega))))
                     | exact hK _ (by repeat (first | (with_reducible exact Below.refl _ _) | (with_reducible assumption) | ((with_reducible refine Below.setCell ?_ ?_ _); rotate_left; · (first | exact Nat.le_refl _ | (simp; done) | (simp; omega) | omega)) | ((with_reducible refine Below.alloc ?_ ?_ _); rotate_left; · (first | exact Nat.le_refl _ | (simp; done) | (simp; omega) | omega)) | (with_reducible apply Below.drew) | (with_reducible apply below_drewN') | (refine Below.trans ?_ (Below.mono (by assumption) (by first | exact Nat.le_refl _ | (simp; done) | (simp; omega) | omega))) | exact Below.refl _ _ | assumption))
                 · simp [Act.put]
                   done)
              | (apply StepsD.pass
                 · go_simp
                   done
                 · simp only [Act.put, List.setIfInBounds_toArray, List.set_cons_succ, List.set_cons_zero]
                   rfl))
            refine StepsD.done ?_
            intro w2 hS
            go_wp2
            go_ret2
            exact ⟨rfl, hbe2.trans (hS.mono (by omega))⟩
          · have HZN : Hid (∀ m, m < k + 1 → pairsB l0.length l1.length (relV l0 l1 slack) P m = 0) := Lib.hid (fun m hm => by
              by_cases e : m = k
              · subst e; rw [pairsB_at HPK.out]; exact pairB_fine HIN.out HNT.out hRk
              · exact HZ.out m (by omega))
            have htk : P.take (k + 1) = P.take k ++ [((i : Int), (j : Int))] := by rw [List.take_add_one, HPK.out]; rfl
            have HTN : Hid (Taken (·.1) (F0.set i j) (P.take (k + 1)) ∧ Taken (·.2) (F1.set j i) (P.take (k + 1))) := Lib.hid (by rw [htk]; exact ⟨HT.out.1.add rfl (by omega), HT.out.2.add rfl (by omega)⟩)
            rw [hRk] at hR
            have HA : Hid (alikeV y x slack = true) := Lib.hid hR.symm
            clear hR hRk htk
            go_upto_region 11 with fail
            refine wp_region_b 16 (by kernel_rfl) (by kernel_rfl) ?_; simp only [List.take, List.drop]
            repeat (first
              | (apply StepsD.run
                 · go_simp
                   done
                 · intro w' hS K hK
                   have hc := (bcell hS).1
                   have hf := (bcell hS).2
                   have hz := hS.size
                   try simp at hz
                   go_simp
                   try go_bits
                   first
                     | exact hK _ hS
                     | (go_at_call 127; (with_reducible refine (alike_any y x slack HSY.out HSX.out _).mono ?_); rw [HA.out]; rintro e w1 ⟨rfl, hB1⟩; obtain ⟨hc1, hf1⟩ := bcell hB1; have hz1 := hB1.size; (try simp at hz1); exact hK _ (Below.trans hS (Below.mono hB1 (by first | exact Nat.le_refl _ | (simp; done) | (simp; omega) | omega))))
                     | exact hK _ (by repeat (first | (with_reducible exact Below.refl _ _) | (with_reducible assumption) | ((with_reducible refine Below.setCell ?_ ?_ _); rotate_left; · (first | exact Nat.le_refl _ | (simp; done) | (simp; omega) | omega)) | ((with_reducible refine Below.alloc ?_ ?_ _); rotate_left; · (first | exact Nat.le_refl _ | (simp; done) | (simp; omega) | omega)) | (with_reducible apply Below.drew) | (with_reducible apply below_drewN') | (refine Below.trans ?_ (Below.mono (by assumption) (by first | exact Nat.le_refl _ | (simp; done) | (simp; omega) | omega))) | exact Below.refl _ _ | assumption))
                 · simp [Act.put]
                   done)
              | (apply StepsD.pass
                 · go_simp
                   done
                 · simp only [Act.put, List.setIfInBounds_toArray, List.set_cons_succ, List.set_cons_zero]
                   rfl))
            refine StepsD.done ?_
            intro w2 hS
            have M3 := M2.gr hS
            have c13 := c11.gr hS
            clear y0 y1 y2 y3 y4 y5 e0 e1 e2 e3 e4 e5 d0 d1 d2 x0 x1 x2 l3 lx lg0 lg1 M2 c11 c3
            go_upto_region 13 with fail
            refine pairReg13 M3 c13 hi hj hf0 hf1 _ ?_
            intro t85 t86 t87 t88 t89 t90 t91 t92 t93 t94 t95 t96 t97 t98 t99 t100 t101 t102 t103 t104 w4 M4 b4
            go_wp2
            exact ⟨⟨k + 1, _, _, by omega, by go_num, HZN, HTN, M4⟩, by simp [intOf]; omega⟩
      · obtain rfl : k = P.length := by omega
        obtain ⟨rfl, rfl⟩ := HGOOD.out HZ.out
        go_wp2
        go_ret2
        exact ⟨rfl, HBB.out.trans (hx.mono hzW)⟩
end Go.Proofs.YtidgeagpgllkeaaGreat
