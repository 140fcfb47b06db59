/- Contracts: the steps of calibration: which steps are right (by the program). -/
import Derived.IntWalk
import Derived.Test.YtmdbpkomanhpoaaGreatDoorZqOsB
import Derived.Test.YtmdbpkomanhpoaaGreatDoorZqOsG
import Derived.Test.YtmdbpkomanhpoaaGreatDoorZqCvU
namespace Go.Proofs.YtmdbpkomanhpoaaGreatDoor
open Go.RowKit

/-- A step: its name, how long it lasts, how warm it may become, which steps it needs (and where these lie). -/
structure St where
  nm : ByteArray
  lasts : Int
  warm : Int
  A : Option Addr
  c : Nat
  needs : List Int
abbrev stC (s : St) : Array Value := #[.string s.nm, .int .i64 s.lasts, .int .i64 s.warm, .slice s.A s.needs.length s.c]
def stF (s : St) : List Value := [.string s.nm, .int .i64 s.lasts, .int .i64 s.warm, .slice s.A s.needs.length s.c]
theorem stF_len (s : St) : (stF s).length = 4 := rfl
/-- The error of a need. -/
def needE (i : Nat) (needs : List Int) (k : Nat) : Int := match needs[k]? with
  | none => 0
  | some n => if wi n 0 ((i : Int) - 1) = false then 6 else if k = 0 then 0 else match needs[k - 1]? with
    | none => 0
    | some p => if n ≤ p then 9 else 0
theorem needE_zero {i : Nat} {needs : List Int} (h : 0 < needs.length) : needE i needs 0 = if wi needs[0] 0 ((i : Int) - 1) = false then 6 else 0 := by
  unfold needE; rw [List.getElem?_eq_getElem h]; rfl
theorem needE_succ {i k : Nat} {needs : List Int} (h : k + 1 < needs.length) : needE i needs (k + 1) = if wi needs[k + 1] 0 ((i : Int) - 1) = false then 6 else if needs[k + 1] ≤ needs[k]'(by omega) then 9 else 0 := by
  unfold needE
  rw [List.getElem?_eq_getElem h]
  show (if _ then _ else if k + 1 = 0 then _ else match needs[k]? with | none => _ | some p => _) = _
  rw [List.getElem?_eq_getElem (show k < needs.length by omega), if_neg (show ¬ k + 1 = 0 by omega)]
/-- The error of a step. -/
def stepE (l : List St) (i : Nat) : Int := match l[i]? with
  | none => 0
  | some s => if nameB s.nm = false then 4 else if (l.take i).any (fun t => sameB t.nm s.nm) = true then 5 else if wi s.lasts 1 1000000 = false then 2 else if wi s.warm 0 2000 = false then 2 else (firstE (needE i s.needs) s.needs.length).2
theorem stepE_at {l : List St} {i : Nat} (h : i < l.length) : stepE l i = if nameB l[i].nm = false then 4 else if (l.take i).any (fun t => sameB t.nm l[i].nm) = true then 5 else if wi l[i].lasts 1 1000000 = false then 2 else if wi l[i].warm 0 2000 = false then 2 else (firstE (needE i l[i].needs) l[i].needs.length).2 := by
  unfold stepE; rw [List.getElem?_eq_getElem h]
/-- The error of steps, with a number. -/
def stepsE (l : List St) : Int × Int := if l.length = 0 then (0, 10) else if 10 < l.length then (0, 8) else firstE (stepE l) l.length

/-- Steps in memory. -/
structure StOk (l : List St) (A : Option Addr) (c B : Nat) (w : World) : Prop where
  nm : ∀ p ∈ l, p.nm.size ≤ 1000000000000
  needs : ∀ p ∈ l, p.needs.length ≤ 1000000 ∧ Row w B 1 p.A p.needs.length (intsC p.needs)
  len : l.length ≤ c
  cap : c ≤ 9223372036854775807
  row : Row w B 4 A l.length (rowsC stF l)
  base : B ≤ w.heap.size
theorem StOk.below {l : List St} {A : Option Addr} {c B C : Nat} {w w' : World} (h : StOk l A c B w) (hb : Below C w w') (hC : B ≤ C) : StOk l A c B w' :=
  ⟨h.nm, fun p hp => ⟨(h.needs p hp).1, (h.needs p hp).2.below hb hC⟩, h.len, h.cap, h.row.below hb hC, Nat.le_trans h.base hb.size⟩
theorem intRow_at {w : World} {B : Nat} {A : Option Addr} {l : List Int} (h : Row w B 1 A l.length (intsC l)) {k : Nat} (hk : k < l.length) : ∃ g o, A = some ⟨g, o, none⟩ ∧ g < B ∧ w.cell? ⟨g, o + k, none⟩ = some (.int .i64 l[k]) := by
  obtain ⟨g, o, hA, hb, hc⟩ := h.2 (by omega)
  exact ⟨g, o, hA, hb, hc k _ (intsC_get l k hk)⟩

set_option maxHeartbeats 400000 in
theorem sameSt_any (s : St) (nm' : ByteArray) (b : Nat) (w : World) (hc : w.cell? ⟨b, 0, none⟩ = some (.string nm')) :
    Calls Tryz.prog 120 #[.agg (stC s), .pointer (some ⟨b, 0, none⟩)] w fun e w' => e = .returned (.bool (sameB s.nm nm')) ∧ Below w.heap.size w w' := by
  have hlt := World.block_lt_of_cell? _ _ hc
  go_enter Tryz.func120, Tryz.ntmps120
  go_wp2
  go_ret
  exact ⟨rfl, (by repeat (first | (with_reducible exact Below.refl _ _) | (with_reducible assumption) | ((with_reducible refine Below.setCell ?_ ?_ _); rotate_left; · (first | exact Nat.le_refl _ | (simp; done) | (simp; omega) | omega)) | ((with_reducible refine Below.alloc ?_ ?_ _); rotate_left; · (first | exact Nat.le_refl _ | (simp; done) | (simp; omega) | omega)) | (with_reducible apply Below.drew) | (with_reducible apply below_drewN') | (refine Below.trans ?_ (Below.mono (by assumption) (by first | exact Nat.le_refl _ | (simp; done) | (simp; omega) | omega))) | exact Below.refl _ _ | assumption))⟩

set_option maxHeartbeats 1000000 in
theorem idxSt (l : List St) (A : Option Addr) (c : Nat) (nm' : ByteArray) (b : Nat) (B : Nat) (w : World) (hn : l.length ≤ 1000000) (hR : Row w B 4 A l.length (rowsC stF l)) (hB : B ≤ w.heap.size) (hc : w.cell? ⟨b, 0, none⟩ = some (.string nm')) :
    Calls Tryz.prog 157 #[.slice A l.length c, .func (.func 120) #[] #[.pointer (some ⟨b, 0, none⟩)]] w fun e w' => e = .returned (.int .i64 (idxV (fun p => sameB p.nm nm') l)) ∧ Below w.heap.size w w' := by
  go_enter Tryz.func157, Tryz.ntmps157
  go_wp2
  go_loopw [8] (fun i wr => ∃ k : Nat, k ≤ l.length ∧ i = .int .i64 k ∧ Hid ((l.take k).any (fun p => sameB p.nm nm') = false) ∧ Below w.heap.size w wr) (fun i _ => l.length - (intOf i).toNat)
  case atStart => exact ⟨0, Nat.zero_le _, rfl, rfl, Below.refl _ _⟩
  case round =>
    obtain ⟨k, hk, rfl, HI, hB'⟩ := hrel
    by_cases hlt : k < l.length
    · obtain ⟨g, o, hA, hg, c0, c1, c2, c3⟩ := (hR.below hB' hB).at4 stF_len hlt rfl
      subst hA
      have hcb := (hB'.cell (p := ⟨b, 0, none⟩) (World.block_lt_of_cell? _ _ hc)).trans hc
      cases hs : (fun p => sameB p.nm nm') l[k]
      · have HS := Lib.hid hs; clear hs
        go_wp2_with fail
        refine (sameSt_any l[k] nm' b _ hcb).mono ?_
        rw [HS.out]
        rintro e w1 ⟨rfl, hB1⟩; obtain ⟨hc1, hf1⟩ := bcell hB1; have hz1 := hB1.size; (try simp at hz1)
        go_wp2
        refine ⟨⟨k + 1, by omega, by go_num, by rw [any_take_snoc _ _ hlt, HI.out, HS.out]; rfl, Below.trans hB' (hB1.mono (Below.size hB'))⟩, by simp [intOf]; omega⟩
      · have HS := Lib.hid (idxV_hit hlt HI.out hs); have HS2 := Lib.hid hs; clear hs
        go_wp2_with fail
        refine (sameSt_any l[k] nm' b _ hcb).mono ?_
        rw [HS2.out]
        rintro e w1 ⟨rfl, hB1⟩; obtain ⟨hc1, hf1⟩ := bcell hB1; have hz1 := hB1.size; (try simp at hz1)
        go_wp2
        go_ret
        exact ⟨by rw [HS.out]; rfl, Below.trans hB' (hB1.mono (Below.size hB'))⟩
    · obtain rfl : k = l.length := by omega
      have HS : Hid _ := Lib.hid (idxV_none (by rw [List.take_length] at HI; exact HI.out))
      go_wp2
      go_ret
      exact ⟨by rw [HS.out]; rfl, hB'⟩

set_option maxHeartbeats 400000 in
theorem hasSt (l : List St) (A : Option Addr) (c : Nat) (nm' : ByteArray) (b : Nat) (B : Nat) (w : World) (hn : l.length ≤ 1000000) (hR : Row w B 4 A l.length (rowsC stF l)) (hB : B ≤ w.heap.size) (hc : w.cell? ⟨b, 0, none⟩ = some (.string nm')) :
    Calls Tryz.prog 119 #[.slice A l.length c, .func (.func 120) #[] #[.pointer (some ⟨b, 0, none⟩)]] w fun e w' => e = .returned (.bool (l.any (fun p => sameB p.nm nm'))) ∧ Below w.heap.size w w' := by
  have HX := Lib.hid (idxV_any (fun p => sameB p.nm nm') l)
  go_enter Tryz.func119, Tryz.ntmps119
  go_wp2_with fail
  refine (idxSt l A c nm' b B _ hn hR hB hc).mono ?_
  rintro e w1 ⟨rfl, hB1⟩
  go_wp2
  go_ret
  exact ⟨by rw [← HX.out]; rfl, hB1⟩

set_option maxRecDepth 100000 in
set_option maxHeartbeats 4000000 in
theorem cdCheckSteps_any (l : List St) (A : Option Addr) (c B : Nat) (w : World) (hl : StOk l A c B w) :
    Calls Tryz.prog 80 #[.slice A l.length c] w fun e w' => e = .returned (.tuple #[.int .i64 (stepsE l).1, .int .i64 (stepsE l).2]) ∧ Below w.heap.size w w' := by
  obtain ⟨h1, h2, h3, h4, hR, hB⟩ := hl
  have H1 := Lib.hid h1; have H2 := Lib.hid h2; have HRW := Lib.hid hR; clear h1 h2 hR
  by_cases t0 : l.length = 0
  · have HE : Hid (stepsE l = (0, 10)) := by unfold stepsE; rw [if_pos t0]; rfl
    have t1 : ((l.length : Int) == 0) = true := by simpa using t0
    have T0 := Lib.hid t0; clear t0
    go_enter Tryz.func80, Tryz.ntmps80
    go_wp2
    go_ret2
    exact ⟨by rw [HE.out]; rfl, (by repeat (first | (with_reducible exact Below.refl _ _) | (with_reducible assumption) | ((with_reducible refine Below.setCell ?_ ?_ _); rotate_left; · (first | exact Nat.le_refl _ | (simp; done) | (simp; omega) | omega)) | ((with_reducible refine Below.alloc ?_ ?_ _); rotate_left; · (first | exact Nat.le_refl _ | (simp; done) | (simp; omega) | omega)) | (with_reducible apply Below.drew) | (with_reducible apply below_drewN') | (refine Below.trans ?_ (Below.mono (by assumption) (by first | exact Nat.le_refl _ | (simp; done) | (simp; omega) | omega))) | exact Below.refl _ _ | assumption))⟩
  by_cases t3 : 10 < l.length
  · have HE : Hid (stepsE l = (0, 8)) := by unfold stepsE; rw [if_neg t0, if_pos t3]; rfl
    have t1 : ((l.length : Int) == 0) = false := by simpa using t0
    have t3' : (10 : Int) < (l.length : Int) := by omega
    have T0 := Lib.hid t0; clear t0
    go_enter Tryz.func80, Tryz.ntmps80
    go_wp2
    go_ret2
    exact ⟨by rw [HE.out]; rfl, (by repeat (first | (with_reducible exact Below.refl _ _) | (with_reducible assumption) | ((with_reducible refine Below.setCell ?_ ?_ _); rotate_left; · (first | exact Nat.le_refl _ | (simp; done) | (simp; omega) | omega)) | ((with_reducible refine Below.alloc ?_ ?_ _); rotate_left; · (first | exact Nat.le_refl _ | (simp; done) | (simp; omega) | omega)) | (with_reducible apply Below.drew) | (with_reducible apply below_drewN') | (refine Below.trans ?_ (Below.mono (by assumption) (by first | exact Nat.le_refl _ | (simp; done) | (simp; omega) | omega))) | exact Below.refl _ _ | assumption))⟩
  have HE : Hid (stepsE l = firstE (stepE l) l.length) := by unfold stepsE; rw [if_neg t0, if_neg t3]; rfl
  have t1 : ((l.length : Int) == 0) = false := by simpa using t0
  have t3' : (l.length : Int) ≤ 10 := by omega
  have t4 : decide ((10 : Int) < (l.length : Int)) = false := by simp; omega
  have T0 := Lib.hid t0; clear t0 t3
  go_enter Tryz.func80, Tryz.ntmps80
  go_wp2
  go_loopw [18] (fun i wr => ∃ k : Nat, k ≤ l.length ∧ i = .int .i64 k ∧ Hid (FineTo (stepE l) k) ∧ Below w.heap.size w wr) (fun i _ => l.length - (intOf i).toNat)
  case atStart => exact ⟨0, Nat.zero_le _, rfl, Lib.hid (FineTo.zero _), Below.refl _ _⟩
  case round =>
    obtain ⟨k, hk, rfl, HI, hBB⟩ := hrel
    by_cases hlt : k < l.length
    · obtain ⟨g, o, hA, hg, c0, c1, c2, c3⟩ := (HRW.out.below hBB hB).at4 stF_len hlt rfl
      subst hA
      have hsz : l[k].nm.size ≤ 1000000000000 := H1.out _ (List.getElem_mem hlt)
      have hnl := (H2.out _ (List.getElem_mem hlt)).1
      have HNR := Lib.hid (H2.out _ (List.getElem_mem hlt)).2
      have hkc : k ≤ c := by omega
      have hkc1 : (k : Int) ≤ (c : Int) := by omega
      have hkc0 : (0 : Int) ≤ (k : Int) := by omega
      have HS := Lib.hid (stepE_at hlt)
      have HBAD : Hid (stepE l k ≠ 0 → stepsE l = ((k : Int), stepE l k)) := Lib.hid (fun he => HE.out.trans (firstE_bad HI.out hlt he))
      have HNX : Hid (stepE l k = 0 → FineTo (stepE l) (k + 1)) := Lib.hid (fun he => HI.out.step he)
      have HRk := Lib.hid ((HRW.out.below hBB hB).takeF stF_len hk)
      have hlk : Hid ((l.take k).length = k) := Lib.hid (by simp; omega)
      obtain ⟨T, hT⟩ : ∃ T, (l.take k).any (fun q => sameB q.nm l[k].nm) = T := ⟨_, rfl⟩
      rw [hT] at HS
      have HT := Lib.hid hT; clear hT HI
      obtain ⟨m, hm⟩ : ∃ m, l[k] = m := ⟨_, rfl⟩
      rw [hm] at HS hsz c0 c1 c2 c3 HT hnl HNR
      clear hm
      obtain ⟨mnm, mlasts, mwarm, mA, mc, mneeds⟩ := m
      dsimp only at HS hsz c0 c1 c2 c3 HT hnl HNR
      have b1 := Blk.new wr 109 #[.string mnm, .int .i64 mlasts, .int .i64 mwarm, .slice mA mneeds.length mc]
      have hBw : Below w.heap.size w (wr.alloc (.cells #[.string mnm, .int .i64 mlasts, .int .i64 mwarm, .slice mA mneeds.length mc] 109)) := Below.alloc hBB (Below.size hBB) _
      have hBa : B ≤ wr.heap.size := Nat.le_trans hB (Below.size hBB)
      cases hq1 : nameB mnm
      · have HX : Hid (stepsE l = ((k : Int), 4)) := by rw [hq1] at HS; have := HBAD.out (by rw [HS.out]; simp); rw [HS.out] at this; exact Lib.hid this
        have HN : Hid (∀ w : World, Calls Tryz.prog 118 #[.string mnm] w fun e w' => e = .returned (.bool false) ∧ Below w.heap.size w w') := Lib.hid fun w => by have := tnIsName_any mnm w hsz; rwa [hq1] at this
        have Q1 := Lib.hid hq1; clear hq1 HS HBAD HNX
        go_wp2_with fail
        refine (HN.out _).mono ?_
        rintro e w1 ⟨rfl, hB1⟩
        have hBE := hBw.trans (hB1.mono hBw.size)
        go_wp2
        go_ret2
        exact ⟨by rw [HX.out]; rfl, hBE⟩
      have HN : Hid (∀ w : World, Calls Tryz.prog 118 #[.string mnm] w fun e w' => e = .returned (.bool true) ∧ Below w.heap.size w w') := Lib.hid fun w => by have := tnIsName_any mnm w hsz; rwa [hq1] at this
      rw [hq1] at HS
      have Q1 := Lib.hid hq1; clear hq1
      go_wp2_with fail
      refine (HN.out _).mono ?_
      rintro e w1 ⟨rfl, hB1⟩
      have b2 := b1.below hB1 b1.lt
      have hBE := hBw.trans (hB1.mono hBw.size)
      have HRk2 := Lib.hid (HRk.out.below ((Below.refl _ _).alloc (Nat.le_refl _) _ |>.trans (hB1.mono (by simp))) hBa)
      have hBa1 : wr.heap.size < w1.heap.size := by have := Below.size hB1; simp at this; omega
      obtain ⟨d0, d1, d2, d3, df⟩ := blk4 b2
      generalize wr.heap.size = gb at *
      clear hB1 b1 c0 c1 c2 c3 HN HRk hBw
      have HHS : Hid (Calls Tryz.prog 119 #[.slice (some ⟨g, o, none⟩) k c, .func (.func 120) #[] #[.pointer (some ⟨gb, 0, none⟩)]] w1 fun e w' => e = .returned (.bool T) ∧ Below w1.heap.size w1 w') := Lib.hid (by
        have := hasSt (l.take k) (some ⟨g, o, none⟩) c mnm gb B w1 (by simp; omega) (by rw [hlk.out]; exact HRk2.out) (by omega) d0
        rwa [hlk.out, HT.out] at this)
      go_wp2_with fail
      refine HHS.out.mono ?_
      rintro e w2 ⟨rfl, hB2⟩
      replace hBE := hBE.trans (hB2.mono hBE.size)
      have b3 := b2.below hB2 b2.lt
      have hBa2 : w1.heap.size ≤ w2.heap.size := hB2.size
      clear hB2 d0 d1 d2 d3 df HHS b2
      obtain ⟨d0, d1, d2, d3, df⟩ := blk4 b3
      rcases (by cases T <;> simp : T = true ∨ T = false) with rfl | rfl
      · have HX : Hid (stepsE l = ((k : Int), 5)) := by have := HBAD.out (by rw [HS.out]; simp); rw [HS.out] at this; exact Lib.hid this
        clear HS HBAD HNX
        go_wp2
        go_ret2
        exact ⟨by rw [HX.out]; rfl, hBE⟩
      cases hq3 : wi mlasts 1 1000000
      · have HX : Hid (stepsE l = ((k : Int), 2)) := by rw [hq3] at HS; have := HBAD.out (by rw [HS.out]; simp); rw [HS.out] at this; exact Lib.hid this
        clear HS HBAD HNX
        go_wp2_with (go_at_call 121; refine (tnWithin_any _ _ _ _).mono ?_; rw [hq3]; rintro e w1 ⟨rfl, rfl⟩)
        go_ret2
        exact ⟨by rw [HX.out]; rfl, hBE⟩
      cases hq4 : wi mwarm 0 2000
      · have HX : Hid (stepsE l = ((k : Int), 2)) := by rw [hq3, hq4] at HS; have := HBAD.out (by rw [HS.out]; simp); rw [HS.out] at this; exact Lib.hid this
        clear HS HBAD HNX
        go_wp2_with (go_at_call 121; refine (tnWithin_any _ _ _ _).mono ?_; (first | rw [hq3] | rw [hq4]); rintro e w1 ⟨rfl, rfl⟩)
        go_ret2
        exact ⟨by rw [HX.out]; rfl, hBE⟩
      have HS2 : Hid (stepE l k = (firstE (needE k mneeds) mneeds.length).2) := Lib.hid (by rw [HS.out, hq3, hq4]; simp)
      clear HS
      go_wp2_with (go_at_call 121; refine (tnWithin_any _ _ _ _).mono ?_; (first | rw [hq3] | rw [hq4]); rintro e w1 ⟨rfl, rfl⟩)
      have Q3 := Lib.hid hq3; have Q4 := Lib.hid hq4; clear hq3 hq4
      have hki : IntKind.i64.wrap ((k : Int) - 1) = (k : Int) - 1 := IntWalk.i64_in _ (by omega)
      have HKI := Lib.hid hki; clear hki
      have hl2 : B ≤ w2.heap.size := by omega
      have HNB := Lib.hid (fun he => firstE_bad (e := needE k mneeds) (n := mneeds.length) (k := 0) (FineTo.zero _) he)
      clear HNB
      have HNR2 := Lib.hid (HNR.out.below hBE hB)
      clear HNR
      go_loopw [51] (fun i wq => ∃ j : Nat, j ≤ mneeds.length ∧ i = .int .i64 j ∧ Hid (FineTo (needE k mneeds) j) ∧ Below w2.heap.size w2 wq) (fun i _ => mneeds.length - (intOf i).toNat)
      case atStart => exact ⟨0, Nat.zero_le _, rfl, Lib.hid (FineTo.zero _), Below.refl _ _⟩
      case round =>
        obtain ⟨j, hj, rfl, HF, hBq⟩ := hrel
        have hBEq := hBE.trans (hBq.mono hBE.size)
        by_cases hjl : j < mneeds.length
        · obtain ⟨gn, on, hAn, hgn, e0⟩ := intRow_at (HNR2.out.below hBq hl2) hjl
          have hzq := Below.size hBq
          have b4 := b3.below hBq b3.lt
          obtain ⟨d0, d1, d2, d3, df⟩ := blk4 b4
          subst hAn
          have HB2 : Hid (needE k mneeds j ≠ 0 → stepsE l = ((k : Int), needE k mneeds j)) := Lib.hid (fun he => by
            have h2 := firstE_bad HF.out hjl he
            have h3 : stepE l k = needE k mneeds j := by rw [HS2.out, h2]
            have := HBAD.out (by rw [h3]; exact he)
            rwa [h3] at this)
          have HN2 : Hid (needE k mneeds j = 0 → FineTo (needE k mneeds) (j + 1)) := Lib.hid (fun he => HF.out.step he)
          rcases j with _ | i
          · have HZ := Lib.hid (needE_zero (i := k) hjl)
            simp only [Nat.add_zero] at e0
            generalize mneeds[0] = n at *
            cases hq5 : wi n 0 ((k : Int) - 1)
            · have HX : Hid (stepsE l = ((k : Int), 6)) := Lib.hid (by have := HB2.out (by rw [HZ.out, hq5]; simp); rw [HZ.out, hq5] at this; simpa using this)
              clear HB2 HN2 HZ HBAD HNX HS2
              go_wp2_with (go_at_call 121; refine (tnWithin_any _ _ _ _).mono ?_; rw [hq5]; rintro e w1 ⟨rfl, rfl⟩)
              go_ret2
              exact ⟨by rw [HX.out]; rfl, hBEq⟩
            · have HX : Hid (FineTo (needE k mneeds) (0 + 1)) := Lib.hid (HN2.out (by rw [HZ.out, hq5]; rfl))
              clear HB2 HN2 HZ
              go_wp2_with (go_at_call 121; refine (tnWithin_any _ _ _ _).mono ?_; rw [hq5]; rintro e w1 ⟨rfl, rfl⟩)
              refine ⟨⟨0 + 1, by omega, by go_num, HX, hBq⟩, by simp [intOf]; omega⟩
          · have HZ := Lib.hid (needE_succ (i := k) hjl)
            obtain ⟨gn2, on2, hAn2, _, e1⟩ := intRow_at (HNR2.out.below hBq hl2) (show i < mneeds.length by omega)
            cases hAn2
            have hi1 : ((i + 1 : Nat) : Int) - 1 = (i : Int) := by omega
            have hi2 : i < mneeds.length := by omega
            have hi3 : (i : Int) < (mneeds.length : Int) := by omega
            have hi4 : (0 : Int) ≤ (i : Int) := by omega
            generalize mneeds[i + 1] = n at *
            generalize mneeds[i] = p at *
            cases hq5 : wi n 0 ((k : Int) - 1)
            · have HX : Hid (stepsE l = ((k : Int), 6)) := Lib.hid (by have := HB2.out (by rw [HZ.out, hq5]; simp); rw [HZ.out, hq5] at this; simpa using this)
              clear HB2 HN2 HZ HBAD HNX HS2
              go_wp2_with (go_at_call 121; refine (tnWithin_any _ _ _ _).mono ?_; rw [hq5]; rintro e w1 ⟨rfl, rfl⟩)
              go_ret2
              exact ⟨by rw [HX.out]; rfl, hBEq⟩
            · by_cases hq6 : n ≤ p
              · have HX : Hid (stepsE l = ((k : Int), 9)) := Lib.hid (by have := HB2.out (by rw [HZ.out, hq5]; simp [hq6]); rw [HZ.out, hq5] at this; simpa [hq6] using this)
                clear HB2 HN2 HZ HBAD HNX HS2
                go_wp2_with (go_at_call 121; refine (tnWithin_any _ _ _ _).mono ?_; rw [hq5]; rintro e w1 ⟨rfl, rfl⟩)
                go_ret2
                exact ⟨by rw [HX.out]; rfl, hBEq⟩
              · have HX : Hid (FineTo (needE k mneeds) (i + 1 + 1)) := Lib.hid (HN2.out (by rw [HZ.out, hq5]; simp [hq6]))
                clear HB2 HN2 HZ
                go_wp2_with (go_at_call 121; refine (tnWithin_any _ _ _ _).mono ?_; rw [hq5]; rintro e w1 ⟨rfl, rfl⟩)
                refine ⟨⟨i + 1 + 1, by omega, by go_num, HX, hBq⟩, by simp [intOf]; omega⟩
        · obtain rfl : j = mneeds.length := by omega
          have HX : Hid (FineTo (stepE l) (k + 1)) := Lib.hid (HNX.out (by rw [HS2.out, firstE_end HF.out]))
          clear HS2 HBAD HNX
          go_wp2
          refine ⟨⟨k + 1, by omega, by go_num, HX, hBEq⟩, by simp [intOf]; omega⟩
    · obtain rfl : k = l.length := by omega
      have HX : Hid (stepsE l = (0, 0)) := Lib.hid (HE.out.trans (firstE_end HI.out))
      go_wp2
      go_ret2
      exact ⟨by rw [HX.out]; rfl, hBB⟩
end Go.Proofs.YtmdbpkomanhpoaaGreatDoor
