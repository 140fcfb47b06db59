/- Contracts: the reference's errors of lists and numbers, and of covers. Contract: the reference's check of a cover. -/
import Derived.Test.YtidgeagpgllkeaaGreatZdFpE
import Derived.Test.YtidgeagpgllkeaaGreatZdFkB
import Derived.Test.YtidgeagpgllkeaaGreatZdFfB
namespace Go.Proofs.YtidgeagpgllkeaaGreat
open Go.RowKit

theorem numb_at' {n : Nat} {L : List Int} {k : Nat} {x : Int} (h : L[k]? = some x) : numbB n L k = if wi x 0 ((n : Int) - 1) = false then 6 else if 0 < k ∧ x ≤ L[k - 1]?.getD 0 then 9 else 0 := by unfold numbB; rw [h]; rfl
theorem rowInt' {w : World} {B : Nat} {A : Option Addr} {L : List Int} (h : Row w B 1 A L.length (intsC L)) {k : Nat} (hk : k < L.length) : ∃ g o, A = some ⟨g, o, none⟩ ∧ g < B ∧ ∀ j x, L[j]? = some x → w.cell? ⟨g, o + j, none⟩ = some (.int .i64 x) := by
  obtain ⟨g, o, hA, hg, hc⟩ := h.2 (by omega)
  exact ⟨g, o, hA, hg, fun j x hj => hc j _ (by simp [intsC, hj])⟩

set_option maxRecDepth 100000 in
set_option maxHeartbeats 1000000 in
theorem refListsErr_any (l0 l1 : List Mk) (A0 A1 : Option Addr) (c0 c1 B : Nat) (slack : Int) (w : World) (h0 : MkOk l0 A0 B w) (h1 : MkOk l1 A1 B w) (hB : B ≤ w.heap.size) :
    Calls Tryz.prog 76 #[.slice A0 l0.length c0, .slice A1 l1.length c1, .int .i64 slack] w fun e w' => e = .returned (.int .i64 (openE l0 l1 slack)) ∧ Below w.heap.size w w' := by
  obtain ⟨X, hX⟩ : ∃ X, (marksE l0).2 = X := ⟨_, rfl⟩
  obtain ⟨Y, hY⟩ : ∃ X, (marksE l1).2 = X := ⟨_, rfl⟩
  obtain ⟨Z, hZ⟩ : ∃ X, slackE slack = X := ⟨_, rfl⟩
  have HO : Hid (openE l0 l1 slack = firstE [X, Y, Z]) := Lib.hid (by unfold openE; rw [hX, hY, hZ])
  have HX := Lib.hid hX; have HY := Lib.hid hY; have HZ := Lib.hid hZ
  rw [HO.out]
  clear hX hY hZ
  go_enter Tryz.func76, Tryz.ntmps76
  go_wp2_with fail
  refine (refCheckMarks_any l0 A0 c0 B _ h0 hB).mono ?_
  rw [HX.out]
  rintro e w1 ⟨rfl, hB1⟩
  by_cases hx : X = 0
  case neg =>
    have hx' : (X != 0) = true := by simpa using hx
    have hE : firstE [X, Y, Z] = X := by simp [firstE, hx]
    go_wp2
    go_ret
    exact ⟨by rw [hE]; rfl, hB1⟩
  subst hx
  go_wp2_with fail
  refine (refCheckMarks_any l1 A1 c1 B _ (h1.below hB1 hB) (by have := Below.size hB1; omega)).mono ?_
  rw [HY.out]
  rintro e w2 ⟨rfl, hB2⟩
  have hBB := hB1.trans (hB2.mono (Below.size hB1))
  by_cases hy : Y = 0
  case neg =>
    have hy' : (Y != 0) = true := by simpa using hy
    have hE : firstE [0, Y, Z] = Y := by simp [firstE, hy]
    go_wp2
    go_ret
    exact ⟨by rw [hE]; rfl, hBB⟩
  subst hy
  have hE : firstE [0, 0, Z] = Z := by simp [firstE]; exact fun h => h.symm
  go_wp2_with (go_at_call 68; refine (refSlack_any slack _).mono ?_; rw [HZ.out]; rintro e w3 ⟨rfl, rfl⟩)
  go_ret
  exact ⟨by rw [hE]; rfl, hBB⟩

set_option maxRecDepth 100000 in
set_option maxHeartbeats 4000000 in
theorem refNumbersErr_any (L : List Int) (A : Option Addr) (c B n : Nat) (w : World) (hL : Row w B 1 A L.length (intsC L)) (hB : B ≤ w.heap.size) (hLl : L.length ≤ 1000) (hn : n ≤ 1000) :
    Calls Tryz.prog 135 #[.slice A L.length c, .int .i64 n] w fun e w' => e = .returned (.int .i64 (numbE n L)) ∧ Below w.heap.size w w' := by
  obtain ⟨E, hE⟩ : ∃ E, numbE n L = E := ⟨_, rfl⟩
  have HEE := Lib.hid hE
  rw [hE]
  clear hE
  go_enter Tryz.func135, Tryz.ntmps135
  go_wp2
  go_loopw [5] (fun s5 wr => ∃ k : Nat, k ≤ L.length ∧ s5 = .int .i64 k ∧ Hid (∀ j, j < k → numbB n L j = 0) ∧ Below w.heap.size w wr) (fun s5 _ => L.length - (intOf s5).toNat)
  case atStart => exact ⟨0, Nat.zero_le _, by go_num, Lib.hid (fun j hj => by omega), Below.refl _ _⟩
  case round =>
    obtain ⟨k, hk, rfl, HZ, hG⟩ := hrel
    have hzG := Below.size hG
    by_cases hlt : k < L.length
    · obtain ⟨g, o, hA, hg, hc⟩ := rowInt' (hL.below hG hB) hlt
      obtain ⟨x, hx⟩ : ∃ x, L[k]? = some x := ⟨L[k], List.getElem?_eq_getElem hlt⟩
      have v0 := hc k x hx
      have HX := Lib.hid hx
      have HC := Lib.hid hc
      have lg : g < wr.heap.size := Nat.lt_of_lt_of_le (Nat.lt_of_lt_of_le hg hB) hzG
      have i1 : ((k : Int) < (L.length : Int)) := by omega
      subst hA
      clear hx hc
      have HBAD : Hid (∀ e, numbB n L k = e → e ≠ 0 → E = e) := Lib.hid (fun e he hne => by rw [← HEE.out]; unfold numbE; rw [firstBad_at HZ.out (by rw [he]; exact hne) hlt, he])
      cases hw : wi x 0 ((n : Int) - 1)
      · have Q0 := Lib.hid hw
        obtain rfl := HBAD.out 6 (by rw [numb_at' HX.out, if_pos hw]) (by decide)
        clear hw
        go_wp2_with (go_at_call 27; refine (bWithin_any _ _ _ _).mono ?_; rw [Q0.out]; rintro e w1 ⟨rfl, rfl⟩)
        go_ret
        exact ⟨rfl, hG⟩
      · have Q0 := Lib.hid hw
        rcases Nat.eq_zero_or_pos k with hk0 | hk0
        · subst hk0
          have HZN : Hid (∀ j, j < 0 + 1 → numbB n L j = 0) := Lib.hid (fun j hj => by
            obtain rfl : j = 0 := by omega
            rw [numb_at' HX.out, if_neg (by rw [hw]; decide), if_neg (by omega)])
          rw [Nat.add_zero] at v0
          clear hw
          go_wp2_with (go_at_call 27; refine (bWithin_any _ _ _ _).mono ?_; rw [Q0.out]; rintro e w1 ⟨rfl, rfl⟩)
          go_quiet (fail)
          go_wp2
          exact ⟨⟨1, by omega, by go_num, HZN, below_drewN' hG _⟩, by simp [intOf]; omega⟩
        · obtain ⟨y, hy⟩ : ∃ y, L[k - 1]? = some y := ⟨L[k - 1]'(by omega), List.getElem?_eq_getElem _⟩
          have v1 := HC.out (k - 1) y hy
          have k1 : ((k : Int) - 1) = ((k - 1 : Nat) : Int) := by omega
          have k2 : ((k - 1 : Nat) : Int) < (L.length : Int) := by omega
          have hk0'' : (0 < (k : Int)) := by omega
          have k3 : ((k : Int) - 1).toNat = k - 1 := by omega
          have k4 : (0 : Int) ≤ (k : Int) - 1 := by omega
          have k5 : (k : Int) - 1 < (L.length : Int) := by omega
          have hd0 : decide (0 < (k : Int)) = true := decide_eq_true hk0''
          by_cases hxy : x ≤ y
          · obtain rfl := HBAD.out 9 (by rw [numb_at' HX.out, if_neg (by rw [hw]; decide), if_pos ⟨hk0, by rw [hy]; exact hxy⟩]) (by decide)
            clear hw
            go_wp2_with (go_at_call 27; refine (bWithin_any _ _ _ _).mono ?_; rw [Q0.out]; rintro e w1 ⟨rfl, rfl⟩)
            go_quiet (fail)
            go_wp2
            go_ret
            exact ⟨rfl, below_drewN' hG _⟩
          · have HZN : Hid (∀ j, j < k + 1 → numbB n L j = 0) := Lib.hid (fun j hj => by
              by_cases e : j = k
              · subst e; rw [numb_at' HX.out, if_neg (by rw [hw]; decide), if_neg (by rw [hy]; exact fun h => hxy h.2)]
              · exact HZ.out j (by omega))
            clear hw
            go_wp2_with (go_at_call 27; refine (bWithin_any _ _ _ _).mono ?_; rw [Q0.out]; rintro e w1 ⟨rfl, rfl⟩)
            go_quiet (fail)
            go_wp2
            exact ⟨⟨k + 1, by omega, by go_num, HZN, below_drewN' hG _⟩, by simp [intOf]; omega⟩
    · obtain rfl : k = L.length := by omega
      obtain rfl : 0 = E := by rw [← HEE.out]; exact (firstBad_pre HZ.out).symm
      go_wp2
      go_ret
      exact ⟨rfl, hG⟩
end Go.Proofs.YtidgeagpgllkeaaGreat

namespace Go.Proofs.YtidgeagpgllkeaaGreat
open Go.RowKit

theorem coverB_no {n m : Nat} {R : Int → Int → Bool} {F S : List Int} {i k : Nat} (hi : i < n) (hk : k < m) (ho : openB R F S (i : Int) (k : Int) = true) : coverB n m R F S = false := by
  cases hc : coverB n m R F S
  · rfl
  · have := List.all_eq_true.1 (List.all_eq_true.1 hc i (List.mem_range.2 hi)) k (List.mem_range.2 hk)
    rw [ho] at this; cases this
theorem coverB_yes {n m : Nat} {R : Int → Int → Bool} {F S : List Int} (h : ∀ i k : Nat, i < n → k < m → openB R F S (i : Int) (k : Int) = false) : coverB n m R F S = true :=
  List.all_eq_true.2 fun i hi => List.all_eq_true.2 fun k hk => by rw [h i k (List.mem_range.1 hi) (List.mem_range.1 hk)]; rfl
theorem cov_1 {n m : Nat} {R : Int → Int → Bool} {F S : List Int} (h : numbE n F ≠ 0) : coverE n m R F S = numbE n F := by unfold coverE; rw [if_neg h]
theorem cov_2 {n m : Nat} {R : Int → Int → Bool} {F S : List Int} (h : numbE n F = 0) (h2 : numbE m S ≠ 0) : coverE n m R F S = numbE m S := by unfold coverE; rw [if_pos h, if_neg h2]
theorem cov_3 {n m : Nat} {R : Int → Int → Bool} {F S : List Int} (h : numbE n F = 0) (h2 : numbE m S = 0) {i k : Nat} (hi : i < n) (hk : k < m) (ho : openB R F S (i : Int) (k : Int) = true) : coverE n m R F S = 18 := by unfold coverE; rw [if_pos h, if_pos h2, coverB_no hi hk ho]; rfl
theorem cov_4 {n m : Nat} {R : Int → Int → Bool} {F S : List Int} (h : numbE n F = 0) (h2 : numbE m S = 0) (ha : ∀ i k : Nat, i < n → k < m → openB R F S (i : Int) (k : Int) = false) : coverE n m R F S = 0 := by unfold coverE; rw [if_pos h, if_pos h2, coverB_yes ha]; rfl
def covN (e : Int) (F S : List Int) : Int := if e = 0 then (F.length : Int) + S.length else 0

set_option maxRecDepth 100000 in
set_option maxHeartbeats 8000000 in
theorem refCheckCover_any (l0 l1 : List Mk) (A0 A1 AF AS : Option Addr) (c0 c1 cF cS B : Nat) (slack : Int) (Fl Sl : List Int) (w : World) (h0 : MkOk l0 A0 B w) (h1 : MkOk l1 A1 B w) (hF : Row w B 1 AF Fl.length (intsC Fl)) (hS : Row w B 1 AS Sl.length (intsC Sl)) (hB : B ≤ w.heap.size) (HS0 : Hid (∀ m ∈ l0, MkS m)) (HS1 : Hid (∀ m ∈ l1, MkS m)) (hn0 : l0.length ≤ 1000) (hn1 : l1.length ≤ 1000) (hFl : Fl.length ≤ 1000) (hSl : Sl.length ≤ 1000) :
    Calls Tryz.prog 78 #[.slice A0 l0.length c0, .slice A1 l1.length c1, .int .i64 slack, .agg #[.slice AF Fl.length cF, .slice AS Sl.length cS]] w fun e w' => e = .returned (.tuple #[.int .i64 (covN (coverE l0.length l1.length (relV l0 l1 slack) Fl Sl) Fl Sl), .int .i64 (coverE l0.length l1.length (relV l0 l1 slack) Fl Sl)]) ∧ Below w.heap.size w w' := by
  obtain ⟨E, hE⟩ : ∃ E, coverE l0.length l1.length (relV l0 l1 slack) Fl Sl = E := ⟨_, rfl⟩
  obtain ⟨NN, hNN⟩ : ∃ N, covN E Fl Sl = N := ⟨_, rfl⟩
  have HE := Lib.hid hE
  have HN := Lib.hid hNN
  rw [hE, hNN]
  obtain ⟨X, hX⟩ : ∃ X, numbE l0.length Fl = X := ⟨_, rfl⟩
  obtain ⟨Y, hY⟩ : ∃ X, numbE l1.length Sl = X := ⟨_, rfl⟩
  have HX := Lib.hid hX
  have HY := Lib.hid hY
  clear hE hNN hX hY
  have b7 := Blk.new w 126 #[.slice AF Fl.length cF, .slice AS Sl.length cS]
  have hBB : Below w.heap.size w (w.alloc (.cells #[.slice AF Fl.length cF, .slice AS Sl.length cS] 126)) := (by repeat (first | (with_reducible exact Below.refl _ _) | (with_reducible assumption) | ((with_reducible refine Below.setCell ?_ ?_ _); rotate_left; · (first | exact Nat.le_refl _ | (simp; done) | (simp; omega) | omega)) | ((with_reducible refine Below.alloc ?_ ?_ _); rotate_left; · (first | exact Nat.le_refl _ | (simp; done) | (simp; omega) | omega)) | (with_reducible apply Below.drew) | (with_reducible apply below_drewN') | (refine Below.trans ?_ (Below.mono (by assumption) (by first | exact Nat.le_refl _ | (simp; done) | (simp; omega) | omega))) | exact Below.refl _ _ | assumption))
  obtain ⟨d0, d1, d2⟩ := blk2c b7
  have l7 := b7.lt
  go_enter Tryz.func78, Tryz.ntmps78
  go_wp2_with fail
  obtain ⟨W, hW⟩ : ∃ W, w.alloc (.cells #[.slice AF Fl.length cF, .slice AS Sl.length cS] 126) = W := ⟨_, rfl⟩
  rw [hW] at b7 hBB d0 d1 d2 l7 ⊢
  clear hW
  refine (refNumbersErr_any Fl AF cF B l0.length _ (hF.below hBB hB) (by have := Below.size hBB; omega) hFl hn0).mono ?_
  rw [HX.out]
  rintro e w1 ⟨rfl, hB1⟩
  replace b7 := b7.gr hB1
  replace hBB := hBB.trans (hB1.mono (Below.size hBB))
  clear hB1 d0 d1 d2 l7
  obtain ⟨d0, d1, d2⟩ := blk2c b7
  have l7 := b7.lt
  by_cases hx : X = 0
  case neg =>
    have hx' : (X != 0) = true := by simpa using hx
    obtain rfl : X = E := by rw [← HE.out, cov_1 (by rw [HX.out]; exact hx), HX.out]
    obtain rfl : 0 = NN := by rw [← HN.out]; unfold covN; rw [if_neg hx]
    go_wp2
    go_ret2
    exact ⟨rfl, hBB⟩
  subst hx
  go_wp2_with fail
  refine (refNumbersErr_any Sl AS cS B l1.length _ (hS.below hBB hB) (by have := Below.size hBB; omega) hSl hn1).mono ?_
  rw [HY.out]
  rintro e w2 ⟨rfl, hB1⟩
  replace b7 := b7.gr hB1
  replace hBB := hBB.trans (hB1.mono (Below.size hBB))
  clear hB1 d0 d1 d2 l7
  by_cases hy : Y = 0
  case neg =>
    have hy' : (Y != 0) = true := by simpa using hy
    obtain rfl : Y = E := by rw [← HE.out, cov_2 HX.out (by rw [HY.out]; exact hy), HY.out]
    obtain rfl : 0 = NN := by rw [← HN.out]; unfold covN; rw [if_neg hy]
    go_wp2
    go_ret2
    exact ⟨rfl, hBB⟩
  subst hy
  have HB3 : Hid (∀ i k : Nat, i < l0.length → k < l1.length → openB (relV l0 l1 slack) Fl Sl (i : Int) (k : Int) = true → E = 18 ∧ NN = 0) := Lib.hid (fun i k hi hk ho => by
    have e := HE.out.symm.trans (cov_3 HX.out HY.out hi hk ho)
    exact ⟨e, by rw [← HN.out, e]; rfl⟩)
  have HB4 : Hid ((∀ i k : Nat, i < l0.length → k < l1.length → openB (relV l0 l1 slack) Fl Sl (i : Int) (k : Int) = false) → E = 0 ∧ NN = (Fl.length : Int) + Sl.length) := Lib.hid (fun ha => by
    have e := HE.out.symm.trans (cov_4 HX.out HY.out ha)
    exact ⟨e, by rw [← HN.out, e]; rfl⟩)
  go_wp2_with fail
  go_loopw [12] (fun s12 wr => ∃ i : Nat, i ≤ l0.length ∧ s12 = .int .i64 i ∧ Hid (∀ a k : Nat, a < i → k < l1.length → openB (relV l0 l1 slack) Fl Sl (a : Int) (k : Int) = false) ∧ Gr w2 wr) (fun s12 _ => l0.length - (intOf s12).toNat)
  case atStart => exact ⟨0, Nat.zero_le _, by go_num, Lib.hid (fun a k h => by omega), Below.refl _ _⟩
  case round =>
    obtain ⟨i, hi, rfl, HZ, hG⟩ := hrel
    by_cases hlt : i < l0.length
    · have i1 : ((i : Int) < (l0.length : Int)) := by omega
      go_wp2_with fail
      go_loopw [13] (fun s13 wx => ∃ k : Nat, k ≤ l1.length ∧ s13 = .int .i64 k ∧ Hid (∀ m : Nat, m < k → openB (relV l0 l1 slack) Fl Sl (i : Int) (m : Int) = false) ∧ Gr w2 wx) (fun s13 _ => l1.length - (intOf s13).toNat)
      case atStart => exact ⟨0, Nat.zero_le _, by go_num, Lib.hid (fun a h => by omega), hG⟩
      case round =>
        clear hG
        obtain ⟨k, hk, rfl, HY2, hG⟩ := hrel
        by_cases hlt2 : k < l1.length
        · have k1 : ((k : Int) < (l1.length : Int)) := by omega
          have hbe := hBB.trans (hG.mono (Below.size hBB))
          have hzz := Below.size hbe
          obtain ⟨g0, o0, hA0, hg0, y0, y1, y2, y3, y4, y5⟩ := mkCells (h0.row.below hbe hB) hlt
          obtain ⟨g1, o1, hA1, hg1, x0, x1, x2, x3, x4, x5⟩ := mkCells (h1.row.below hbe hB) hlt2
          have HSY : Hid (MkS l0[i]) := Lib.hid (HS0.out _ (List.getElem_mem hlt))
          have HSX : Hid (MkS l1[k]) := Lib.hid (HS1.out _ (List.getElem_mem hlt2))
          have hR : relV l0 l1 slack (i : Int) (k : Int) = alikeV l0[i] l1[k] slack := by unfold relV; rw [Int.toNat_natCast, Int.toNat_natCast, List.getElem?_eq_getElem hlt, List.getElem?_eq_getElem hlt2]; rfl
          obtain ⟨x, hx'⟩ : ∃ x, l1[k] = x := ⟨_, rfl⟩
          obtain ⟨y, hy'⟩ : ∃ y, l0[i] = y := ⟨_, rfl⟩
          rw [hx'] at x0 x1 x2 x3 x4 x5 HSX hR
          rw [hy'] at y0 y1 y2 y3 y4 y5 HSY hR
          clear hx' hy'
          have HF := Lib.hid (hF.below hbe hB); have HSR := Lib.hid (hS.below hbe hB)
          subst hA0
          subst hA1
          have lg0 : g0 < wr.heap.size := by omega
          have lg1 : g1 < wr.heap.size := by omega
          have c7 := b7.gr hG
          obtain ⟨d0, d1, d2⟩ := blk2c c7
          have l7 := c7.lt
          have HCL : Hid (openB (relV l0 l1 slack) Fl Sl (i : Int) (k : Int) = false → ∀ m : Nat, m < k + 1 → openB (relV l0 l1 slack) Fl Sl (i : Int) (m : Int) = false) := Lib.hid (fun h m hm => by
            by_cases e : m = k
            · subst e; exact h
            · exact HY2.out m (by omega))
          cases hRk : relV l0 l1 slack (i : Int) (k : Int)
          · have HN2 := Lib.hid (HCL.out (by unfold openB; rw [hRk]; rfl))
            rw [hRk] at hR
            have HA : Hid (alikeV y x slack = false) := Lib.hid hR.symm
            clear hR hRk
            go_upto_region 13 with fail
            refine wp_region_b 24 (by kernel_rfl) (by kernel_rfl) ?_; simp only [List.take, List.drop]
            repeat (first
              | (apply StepsD.run
                 · go_simp
                   done
                 · intro w' hS K hK
                   have hc := (bcell hS).1
                   have hf := (bcell hS).2
                   have hz := hS.size
                   try simp at hz
                   go_simp
                   try go_bits
                   first
                     | exact hK _ hS
                     | (go_at_call 71; (with_reducible refine (refAlike_any y x slack HSY.out HSX.out _).mono ?_); rw [HA.out]; rintro e w1 ⟨rfl, hB1⟩; obtain ⟨hc1, hf1⟩ := bcell hB1; have hz1 := hB1.size; (try simp at hz1); exact hK _ (Below.trans hS (Below.mono hB1 (by first | exact Nat.le_refl _ | (simp; done) | (simp; omega) | omega))))
                     | exact hK _ (by repeat (first | (with_reducible exact Below.refl _ _) | (with_reducible assumption) | ((with_reducible refine Below.setCell ?_ ?_ _); rotate_left; · (first | exact Nat.le_refl _ | (simp; done) | (simp; omega) | omega)) | ((with_reducible refine Below.alloc ?_ ?_ _); rotate_left; · (first | exact Nat.le_refl _ | (simp; done) | (simp; omega) | omega)) | (with_reducible apply Below.drew) | (with_reducible apply below_drewN') | (refine Below.trans ?_ (Below.mono (by assumption) (by first | exact Nat.le_refl _ | (simp; done) | (simp; omega) | omega))) | exact Below.refl _ _ | assumption))
                 · simp [Act.put]
                   done)
              | (apply StepsD.pass
                 · go_simp
                   done
                 · simp only [Act.put, List.setIfInBounds_toArray, List.set_cons_succ, List.set_cons_zero]
                   rfl))
            refine StepsD.done ?_
            intro w5 hS5
            go_wp2
            exact ⟨⟨k + 1, by omega, by go_num, HN2, Gr.trans hG hS5⟩, by simp [intOf]; omega⟩
          · rw [hRk] at hR
            have HA : Hid (alikeV y x slack = true) := Lib.hid hR.symm
            cases hc1 : Fl.contains (i : Int)
            · have C1 := Lib.hid hc1
              cases hc2 : Sl.contains (k : Int)
              · have C2 := Lib.hid hc2
                obtain ⟨rfl, rfl⟩ := HB3.out i k hlt hlt2 (by unfold openB; rw [hRk, hc1, hc2]; rfl)
                clear hR hRk hc1 hc2
                go_upto_region 13 with fail
                refine wp_region_b 24 (by kernel_rfl) (by kernel_rfl) ?_; simp only [List.take, List.drop]
                repeat (first
                  | (apply StepsD.run
                     · go_simp
                       done
                     · intro w' hS K hK
                       have hc := (bcell hS).1
                       have hf := (bcell hS).2
                       have hz := hS.size
                       try simp at hz
                       go_simp
                       try go_bits
                       first
                         | exact hK _ hS
                         | (go_at_call 71; (with_reducible refine (refAlike_any y x slack HSY.out HSX.out _).mono ?_); rw [HA.out]; rintro e w1 ⟨rfl, hB1⟩; obtain ⟨hc1, hf1⟩ := bcell hB1; have hz1 := hB1.size; (try simp at hz1); exact hK _ (Below.trans hS (Below.mono hB1 (by first | exact Nat.le_refl _ | (simp; done) | (simp; omega) | omega))))
                         | (go_at_call 45; (with_reducible refine (bHas_any Fl AF cF B (i : Int) _ (HF.out.below hS (by omega)) (by omega) (by have := Below.size hS; omega)).mono ?_); rw [C1.out]; rintro e w6 ⟨rfl, rfl⟩; exact hK _ hS)
                         | (go_at_call 45; (with_reducible refine (bHas_any Sl AS cS B (k : Int) _ (HSR.out.below hS (by omega)) (by omega) (by have := Below.size hS; omega)).mono ?_); rw [C2.out]; rintro e w6 ⟨rfl, rfl⟩; exact hK _ hS)
                         | exact hK _ (by repeat (first | (with_reducible exact Below.refl _ _) | (with_reducible assumption) | ((with_reducible refine Below.setCell ?_ ?_ _); rotate_left; · (first | exact Nat.le_refl _ | (simp; done) | (simp; omega) | omega)) | ((with_reducible refine Below.alloc ?_ ?_ _); rotate_left; · (first | exact Nat.le_refl _ | (simp; done) | (simp; omega) | omega)) | (with_reducible apply Below.drew) | (with_reducible apply below_drewN') | (refine Below.trans ?_ (Below.mono (by assumption) (by first | exact Nat.le_refl _ | (simp; done) | (simp; omega) | omega))) | exact Below.refl _ _ | assumption))
                     · simp [Act.put]
                       done)
                  | (apply StepsD.pass
                     · go_simp
                       done
                     · simp only [Act.put, List.setIfInBounds_toArray, List.set_cons_succ, List.set_cons_zero]
                       rfl))
                refine StepsD.done ?_
                intro w5 hS5
                go_wp2
                go_ret2
                exact ⟨rfl, hbe.trans (hS5.mono (by omega))⟩
              · have C2 := Lib.hid hc2
                have HN2 := Lib.hid (HCL.out (by unfold openB; rw [hRk, hc1, hc2]; rfl))
                clear hR hRk hc1 hc2
                go_upto_region 13 with fail
                refine wp_region_b 24 (by kernel_rfl) (by kernel_rfl) ?_; simp only [List.take, List.drop]
                repeat (first
                  | (apply StepsD.run
                     · go_simp
                       done
                     · intro w' hS K hK
                       have hc := (bcell hS).1
                       have hf := (bcell hS).2
                       have hz := hS.size
                       try simp at hz
                       go_simp
                       try go_bits
                       first
                         | exact hK _ hS
                         | (go_at_call 71; (with_reducible refine (refAlike_any y x slack HSY.out HSX.out _).mono ?_); rw [HA.out]; rintro e w1 ⟨rfl, hB1⟩; obtain ⟨hc1, hf1⟩ := bcell hB1; have hz1 := hB1.size; (try simp at hz1); exact hK _ (Below.trans hS (Below.mono hB1 (by first | exact Nat.le_refl _ | (simp; done) | (simp; omega) | omega))))
                         | (go_at_call 45; (with_reducible refine (bHas_any Fl AF cF B (i : Int) _ (HF.out.below hS (by omega)) (by omega) (by have := Below.size hS; omega)).mono ?_); rw [C1.out]; rintro e w6 ⟨rfl, rfl⟩; exact hK _ hS)
                         | (go_at_call 45; (with_reducible refine (bHas_any Sl AS cS B (k : Int) _ (HSR.out.below hS (by omega)) (by omega) (by have := Below.size hS; omega)).mono ?_); rw [C2.out]; rintro e w6 ⟨rfl, rfl⟩; exact hK _ hS)
                         | exact hK _ (by repeat (first | (with_reducible exact Below.refl _ _) | (with_reducible assumption) | ((with_reducible refine Below.setCell ?_ ?_ _); rotate_left; · (first | exact Nat.le_refl _ | (simp; done) | (simp; omega) | omega)) | ((with_reducible refine Below.alloc ?_ ?_ _); rotate_left; · (first | exact Nat.le_refl _ | (simp; done) | (simp; omega) | omega)) | (with_reducible apply Below.drew) | (with_reducible apply below_drewN') | (refine Below.trans ?_ (Below.mono (by assumption) (by first | exact Nat.le_refl _ | (simp; done) | (simp; omega) | omega))) | exact Below.refl _ _ | assumption))
                     · simp [Act.put]
                       done)
                  | (apply StepsD.pass
                     · go_simp
                       done
                     · simp only [Act.put, List.setIfInBounds_toArray, List.set_cons_succ, List.set_cons_zero]
                       rfl))
                refine StepsD.done ?_
                intro w5 hS5
                go_wp2
                exact ⟨⟨k + 1, by omega, by go_num, HN2, Gr.trans hG hS5⟩, by simp [intOf]; omega⟩
            · have C1 := Lib.hid hc1
              have HN2 := Lib.hid (HCL.out (by unfold openB; rw [hRk, hc1]; cases Sl.contains (k : Int) <;> rfl))
              clear hR hRk hc1
              go_upto_region 13 with fail
              refine wp_region_b 24 (by kernel_rfl) (by kernel_rfl) ?_; simp only [List.take, List.drop]
              repeat (first
                | (apply StepsD.run
                   · go_simp
                     done
                   · intro w' hS K hK
                     have hc := (bcell hS).1
                     have hf := (bcell hS).2
                     have hz := hS.size
                     try simp at hz
                     go_simp
                     try go_bits
                     first
                       | exact hK _ hS
                       | (go_at_call 71; (with_reducible refine (refAlike_any y x slack HSY.out HSX.out _).mono ?_); rw [HA.out]; rintro e w1 ⟨rfl, hB1⟩; obtain ⟨hc1, hf1⟩ := bcell hB1; have hz1 := hB1.size; (try simp at hz1); exact hK _ (Below.trans hS (Below.mono hB1 (by first | exact Nat.le_refl _ | (simp; done) | (simp; omega) | omega))))
                       | (go_at_call 45; (with_reducible refine (bHas_any Fl AF cF B (i : Int) _ (HF.out.below hS (by omega)) (by omega) (by have := Below.size hS; omega)).mono ?_); rw [C1.out]; rintro e w6 ⟨rfl, rfl⟩; exact hK _ hS)
                       | exact hK _ (by repeat (first | (with_reducible exact Below.refl _ _) | (with_reducible assumption) | ((with_reducible refine Below.setCell ?_ ?_ _); rotate_left; · (first | exact Nat.le_refl _ | (simp; done) | (simp; omega) | omega)) | ((with_reducible refine Below.alloc ?_ ?_ _); rotate_left; · (first | exact Nat.le_refl _ | (simp; done) | (simp; omega) | omega)) | (with_reducible apply Below.drew) | (with_reducible apply below_drewN') | (refine Below.trans ?_ (Below.mono (by assumption) (by first | exact Nat.le_refl _ | (simp; done) | (simp; omega) | omega))) | exact Below.refl _ _ | assumption))
                   · simp [Act.put]
                     done)
                | (apply StepsD.pass
                   · go_simp
                     done
                   · simp only [Act.put, List.setIfInBounds_toArray, List.set_cons_succ, List.set_cons_zero]
                     rfl))
              refine StepsD.done ?_
              intro w5 hS5
              go_wp2
              exact ⟨⟨k + 1, by omega, by go_num, HN2, Gr.trans hG hS5⟩, by simp [intOf]; omega⟩
        · obtain rfl : k = l1.length := by omega
          have HZN : Hid (∀ a m : Nat, a < i + 1 → m < l1.length → openB (relV l0 l1 slack) Fl Sl (a : Int) (m : Int) = false) := Lib.hid (fun a m ha hm => by
            by_cases e : a = i
            · subst e; exact HY2.out m hm
            · exact HZ.out a m (by omega) hm)
          go_wp2
          exact ⟨⟨i + 1, by omega, by go_num, HZN, hG⟩, by simp [intOf]; omega⟩
    · obtain rfl : i = l0.length := by omega
      obtain ⟨rfl, rfl⟩ := HB4.out HZ.out
      have c7 := b7.gr hG
      obtain ⟨d0, d1, d2⟩ := blk2c c7
      have l7 := c7.lt
      go_wp2
      go_ret2
      exact ⟨rfl, hBB.trans (hG.mono (Below.size hBB))⟩
end Go.Proofs.YtidgeagpgllkeaaGreat
