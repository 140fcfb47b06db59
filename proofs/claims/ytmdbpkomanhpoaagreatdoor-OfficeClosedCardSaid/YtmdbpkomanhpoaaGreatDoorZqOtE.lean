/- Contract: steps and events are followed (tune.follow). -/
import Derived.Deep.DeepCutAuto
import Derived.Test.YtmdbpkomanhpoaaGreatDoorZqOtD
import Derived.Test.YtmdbpkomanhpoaaGreatDoorZqOsY
namespace Go.Proofs.YtmdbpkomanhpoaaGreatDoor
open Go.RowKit

/-- What follow tells. -/
def FollowR (l : List St) (A : Option Addr) (c B : Nat) (evs : List Ev) (N : Nat) (e : Ending) (w' : World) : Prop :=
  ((followE l evs).2 ≠ 0 ∧ e = .returned (.tuple #[.pointer none, .int .i64 (followE l evs).1, .int .i64 (followE l evs).2])) ∨
  (followE l evs = (0, 0) ∧ StRight l ∧ (∀ a ∈ bookL l evs, 0 ≤ a.mi ∧ a.mi ≤ 100000000) ∧ ∃ bk base g cap, N ≤ base ∧ e = .returned (.tuple #[.pointer (some ⟨bk, 0, none⟩), .int .i64 0, .int .i64 0]) ∧ BkOk l A c B bk base g cap (bookL l evs) w')
theorem FollowR.bad {l : List St} {A : Option Addr} {c B : Nat} {evs : List Ev} {N : Nat} {w' : World} {i e : Int} (h : followE l evs = (i, e)) (he : e ≠ 0) : FollowR l A c B evs N (.returned (.tuple #[.pointer none, .int .i64 i, .int .i64 e])) w' :=
  .inl ⟨by rw [h]; exact he, by rw [h]⟩

theorem evE_mi {l : List St} {L : List La} {p : Option Int} {x : Ev} (h1 : wi x.mi 0 100000000 = false) : evE l L p x = 2 := by unfold evE; rw [if_pos h1]
theorem evE_st {l : List St} {L : List La} {p : Option Int} {x : Ev} (h1 : wi x.mi 0 100000000 = true) (h2 : wi x.st (-1) ((l.length : Int) - 1) = false) : evE l L p x = 6 := by unfold evE; rw [if_neg (by simp [h1]), if_pos h2]
theorem evE_wa {l : List St} {L : List La} {p : Option Int} {x : Ev} (h1 : wi x.mi 0 100000000 = true) (h2 : wi x.st (-1) ((l.length : Int) - 1) = true) (h3 : wi x.wa (-2000) 2000 = false) : evE l L p x = 2 := by unfold evE; rw [if_neg (by simp [h1]), if_neg (by simp [h2]), if_pos h3]
theorem evE_prev {l : List St} {L : List La} {p : Option Int} {x : Ev} (h1 : wi x.mi 0 100000000 = true) (h2 : wi x.st (-1) ((l.length : Int) - 1) = true) (h3 : wi x.wa (-2000) 2000 = true) (h4 : prevB p x.mi = true) : evE l L p x = 9 := by unfold evE; rw [if_neg (by simp [h1]), if_neg (by simp [h2]), if_neg (by simp [h3]), if_pos h4]
theorem evE_read {l : List St} {L : List La} {p : Option Int} {x : Ev} (h1 : wi x.mi 0 100000000 = true) (h2 : wi x.st (-1) ((l.length : Int) - 1) = true) (h3 : wi x.wa (-2000) 2000 = true) (h4 : prevB p x.mi = false) (h5 : x.st = -1) : evE l L p x = 0 := by unfold evE; rw [if_neg (by simp [h1]), if_neg (by simp [h2]), if_neg (by simp [h3]), if_neg (by simp [h4]), if_pos h5]
theorem evE_need {l : List St} {L : List La} {p : Option Int} {x : Ev} {i : Nat} (h1 : wi x.mi 0 100000000 = true) (h2 : wi x.st (-1) ((l.length : Int) - 1) = true) (h3 : wi x.wa (-2000) 2000 = true) (h4 : prevB p x.mi = false) (h5 : x.st = (i : Int)) (hi : i < l.length) : evE l L p x = if (l[i].needs.all fun n => validV l (addL l ⟨x.mi, -1, x.wa⟩ L) n.toNat x.mi) = true then 0 else 20 := by
  unfold evE
  rw [if_neg (by simp [h1]), if_neg (by simp [h2]), if_neg (by simp [h3]), if_neg (by simp [h4]), if_neg (by omega), h5, Int.toNat_natCast, List.getElem?_eq_getElem hi]
theorem all_take_snoc {α : Type} (l : List α) {k : Nat} (h : k < l.length) (q : α → Bool) : (l.take (k + 1)).all q = ((l.take k).all q && q l[k]) := by
  rw [List.take_succ_eq_append_getElem h, List.all_append]; simp

set_option maxRecDepth 100000 in
set_option maxHeartbeats 8000000 in
theorem follow_any (l : List St) (A : Option Addr) (c B : Nat) (evs : List Ev) (AE : Option Addr) (ce : Nat) (w : World) (hl : StOk l A c B w) (hR : Row w B 3 AE evs.length (rowsC evF evs)) :
    Calls Tryz.prog 132 #[.slice A l.length c, .slice AE evs.length ce] w fun e w' => FollowR l A c B evs w.heap.size e w' ∧ Below w.heap.size w w' := by
  have HL := Lib.hid hl; have HR := Lib.hid hR; have hB := hl.base
  have HCS := Lib.hid (cdCheckSteps_any l A c B w hl)
  clear hl hR
  rcases (Classical.em ((stepsE l).2 = 0)).symm with hs0 | hs0
  · have HX : Hid (followE l evs = (0, (stepsE l).2)) := Lib.hid (by unfold followE; rw [if_neg hs0])
    obtain ⟨u, hu⟩ : ∃ u, stepsE l = u := ⟨_, rfl⟩
    rw [hu] at HCS HX hs0
    clear hu
    obtain ⟨ui, ue⟩ := u
    dsimp only at hs0
    have hs1 : (ue != 0) = true := by simpa using hs0
    have HS0 := Lib.hid hs0; clear hs0
    go_enter Tryz.func132, Tryz.ntmps132
    go_wp2_with fail
    refine HCS.out.mono ?_
    rintro e w1 ⟨rfl, hB1⟩
    go_wp2
    go_ret3
    exact ⟨FollowR.bad HX.out HS0.out, hB1⟩
  obtain ⟨hl0, hl1, hr⟩ := stepsE_right hs0
  have HRT := Lib.hid hr; clear hr
  have HF : Hid (followE l evs = if 60 < evs.length then (0, 8) else firstE (evsQ l evs) evs.length) := Lib.hid (by unfold followE; rw [if_pos hs0])
  obtain ⟨ui, hu⟩ : ∃ ui, stepsE l = (ui, 0) := ⟨_, by rw [← hs0]⟩
  rw [hu] at HCS
  clear hu hs0
  by_cases h60 : 60 < evs.length
  · have HX : Hid (followE l evs = (0, 8)) := Lib.hid (by rw [HF.out, if_pos h60])
    have h60' : (60 : Int) < (evs.length : Int) := by omega
    clear HF
    go_enter Tryz.func132, Tryz.ntmps132
    go_wp2_with fail
    refine HCS.out.mono ?_
    rintro e w1 ⟨rfl, hB1⟩
    go_wp2
    go_ret3
    exact ⟨FollowR.bad HX.out (by decide), hB1⟩
  have HFE : Hid (followE l evs = firstE (evsQ l evs) evs.length) := Lib.hid (by rw [HF.out, if_neg h60])
  have h60' : (evs.length : Int) ≤ 60 := by omega
  have h60'' : decide ((60 : Int) < (evs.length : Int)) = false := by simp; omega
  clear HF h60
  go_enter Tryz.func132, Tryz.ntmps132
  go_wp2_with fail
  refine HCS.out.mono ?_
  rintro e w1 ⟨rfl, hB1⟩
  have hl2 := HL.out.below hB1 hB
  go_wp2_with fail
  refine (newBook_any l A c B w1 hl0 hl1 hl2).mono ?_
  rintro e w2 ⟨bk, rfl, hbk, hB2⟩
  have hBB := hB1.trans (hB2.mono hB1.size)
  have HBK := Lib.hid hbk
  have hN : w.heap.size ≤ w1.heap.size := hB1.size
  generalize w1.heap.size = base at *
  clear hB1 hB2 hbk hl2 HCS
  go_wp2
  go_loopw [30] (fun i wr => ∃ k : Nat, k ≤ evs.length ∧ i = .int .i64 k ∧ Hid (FineTo (evsQ l evs) k) ∧ Hid (BkOk l A c B bk base base l.length (bookL l (evs.take k)) wr) ∧ Hid (∀ a ∈ bookL l (evs.take k), 0 ≤ a.mi ∧ a.mi ≤ 100000000) ∧ Below w.heap.size w wr) (fun i _ => evs.length - (intOf i).toNat)
  case atStart => exact ⟨0, Nat.zero_le _, rfl, Lib.hid (FineTo.zero _), HBK, Lib.hid (fun a ha => by obtain rfl := List.eq_of_mem_replicate ha; exact ⟨by decide, by decide⟩), hBB⟩
  case round =>
    obtain ⟨k, hk, rfl, HI, HBk, HMI, hBr⟩ := hrel
    by_cases hlt : k < evs.length
    · rename World => wo
      obtain ⟨g, o, hA, hg, c0, c1, c2⟩ := (HR.out.below hBr hB).at3 evF_len hlt rfl
      subst hA
      have HBAD : Hid (evsQ l evs k ≠ 0 → followE l evs = ((k : Int), evsQ l evs k)) := Lib.hid (fun he => HFE.out.trans (firstE_bad HI.out hlt he))
      have HNX : Hid (evsQ l evs k = 0 → FineTo (evsQ l evs) (k + 1)) := Lib.hid (fun he => HI.out.step he)
      have HE0 := Lib.hid (evsQ_at (l := l) hlt)
      have HSN := Lib.hid (bookL_snoc l evs hlt)
      have hgw : g < wo.heap.size := by have := Below.size hBr; omega
      have HPV : Hid (∀ j (_ : k = j + 1), (evs[k - 1]?).map (·.mi) = some (evs[j]'(by omega)).mi ∧ wo.cell? ⟨g, o + j * 3, none⟩ = some (.int .i64 (evs[j]'(by omega)).mi)) := Lib.hid fun j hj => by
        obtain ⟨g', o', hA', _, p0, _, _⟩ := (HR.out.below hBr hB).at3 evF_len (show j < evs.length by omega) rfl
        cases hA'
        refine ⟨?_, p0⟩
        subst hj
        rw [Nat.add_sub_cancel, List.getElem?_eq_getElem (show j < evs.length by omega)]
        rfl
      obtain ⟨Lk, hLk⟩ : ∃ Lk, bookL l (evs.take k) = Lk := ⟨_, rfl⟩
      rw [hLk] at HBk HMI HE0 HSN
      clear hLk HI
      obtain ⟨x, hx⟩ : ∃ x, evs[k] = x := ⟨_, rfl⟩
      rw [hx] at c0 c1 c2 HE0 HSN
      clear hx
      obtain ⟨xm, xs, xw⟩ := x
      dsimp only at c0 c1 c2
      have b5 := Blk.new wo 166 #[.int .i64 xm, .int .i64 xs, .int .i64 xw]
      have hBw : Below w.heap.size w (wo.alloc (.cells #[.int .i64 xm, .int .i64 xs, .int .i64 xw] 166)) := hBr.alloc (Below.size hBr) _
      cases q1 : wi xm 0 100000000
      · have HX : Hid (followE l evs = ((k : Int), 2)) := Lib.hid (by have e := HE0.out.trans (evE_mi (x := ⟨xm, xs, xw⟩) q1); have := HBAD.out (by rw [e]; decide); rwa [e] at this)
        clear HBAD HNX
        go_wp2_with (first | (go_at_call 121; refine (tnWithin_any _ _ _ _).mono ?_; (first | rw [q1] | rw [q2]); rintro e w1 ⟨rfl, rfl⟩) | (go_at_call 166; refine (small_any_ _ _ (by omega) _).mono ?_; rw [q3]; rintro e w1 ⟨rfl, rfl⟩))
        go_ret3
        exact ⟨FollowR.bad HX.out (by decide), hBw⟩
      cases q2 : wi xs (-1) ((l.length : Int) - 1)
      · have HX : Hid (followE l evs = ((k : Int), 6)) := Lib.hid (by have e := HE0.out.trans (evE_st (x := ⟨xm, xs, xw⟩) q1 q2); have := HBAD.out (by rw [e]; decide); rwa [e] at this)
        clear HBAD HNX
        go_wp2_with (first | (go_at_call 121; refine (tnWithin_any _ _ _ _).mono ?_; (first | rw [q1] | rw [q2]); rintro e w1 ⟨rfl, rfl⟩) | (go_at_call 166; refine (small_any_ _ _ (by omega) _).mono ?_; rw [q3]; rintro e w1 ⟨rfl, rfl⟩))
        go_ret3
        exact ⟨FollowR.bad HX.out (by decide), hBw⟩
      cases q3 : wi xw (-2000) 2000
      · have HX : Hid (followE l evs = ((k : Int), 2)) := Lib.hid (by have e := HE0.out.trans (evE_wa (x := ⟨xm, xs, xw⟩) q1 q2 q3); have := HBAD.out (by rw [e]; decide); rwa [e] at this)
        clear HBAD HNX
        go_wp2_with (first | (go_at_call 121; refine (tnWithin_any _ _ _ _).mono ?_; (first | rw [q1] | rw [q2]); rintro e w1 ⟨rfl, rfl⟩) | (go_at_call 166; refine (small_any_ _ _ (by omega) _).mono ?_; rw [q3]; rintro e w1 ⟨rfl, rfl⟩))
        go_ret3
        exact ⟨FollowR.bad HX.out (by decide), hBw⟩
      have w1 := wi_true q1; have w2 := wi_true q2; have w3 := wi_true q3
      obtain ⟨pp, hpp⟩ : ∃ pp, (if k = 0 then none else (evs[k - 1]?).map (·.mi)) = pp := ⟨_, rfl⟩
      have HE1 : Hid (evsQ l evs k = evE l Lk pp ⟨xm, xs, xw⟩) := Lib.hid (by rw [HE0.out, hpp])
      have HPP := Lib.hid hpp
      clear hpp HE0
      have hZ0 : Below wo.heap.size wo (wo.alloc (.cells #[.int .i64 xm, .int .i64 xs, .int .i64 xw] 166)) := (Below.refl _ _).alloc (Nat.le_refl _) _
      go_upto_region 16 with (first | (go_at_call 121; refine (tnWithin_any _ _ _ _).mono ?_; (first | rw [q1] | rw [q2]); rintro e w1 ⟨rfl, rfl⟩) | (go_at_call 166; refine (small_any_ _ _ (by omega) _).mono ?_; rw [q3]; rintro e w1 ⟨rfl, rfl⟩))
      go_cut [56] (fun s56 wx => s56 = .bool (prevB pp xm) ∧ Below wo.heap.size wo wx ∧ Blk wx wo.heap.size 166 #[.int .i64 xm, .int .i64 xs, .int .i64 xw])
      case first => as_aux_lemma =>
        rcases k with _ | j
        · have hT : Hid (prevB pp xm = false) := Lib.hid (by rw [← HPP.out]; rfl)
          go_quiet (fail)
          go_wp2_with fail
          go_meet
          exact ⟨by rw [hT.out], by first | exact hZ0 | exact below_drewN' hZ0 _, b5⟩
        · obtain ⟨hpv, p0⟩ := HPV.out j rfl
          have hj : ((j + 1 : Nat) : Int) - 1 = (j : Int) := by omega
          have hj1 : j < evs.length := by omega
          have hj2 : (j : Int) < (evs.length : Int) := by omega
          have hj3 : (0 : Int) ≤ (j : Int) := by omega
          have hwj : IntKind.i64.wrap (j : Int) = (j : Int) := IntWalk.i64_in _ (by omega)
          obtain ⟨pm, hpm⟩ : ∃ pm, evs[j].mi = pm := ⟨_, rfl⟩
          rw [hpm] at p0 hpv
          have hP : pp = some pm := by rw [← HPP.out, if_neg (by omega), hpv]
          have HT : Hid (prevB pp xm = decide (xm < pm)) := Lib.hid (by rw [hP]; rfl)
          clear hpm hpv HPV hP HPP
          go_quiet (fail)
          clear hwj
          go_wp2_with fail
          all_goals
            go_meet
            exact ⟨by rw [HT.out], by first | exact hZ0 | exact below_drewN' hZ0 _, b5⟩
      case rest =>
      obtain ⟨rfl, hZ, b5⟩ := hcut
      clear hBw hZ0 HPV HPP
      rename World => wx
      have hBx : Below w.heap.size w wx := hBr.trans (hZ.mono (Below.size hBr))
      obtain ⟨T, hT⟩ : ∃ T, prevB pp xm = T := ⟨_, rfl⟩
      rw [hT]
      have HT0 := Lib.hid hT; clear hT
      have Q1 := Lib.hid q1; have Q2 := Lib.hid q2; have Q3 := Lib.hid q3; clear q1 q2 q3
      have hx0 := b5.lt
      have y0 := b5.cell 0; have y1 := b5.cell 1; have y2 := b5.cell 2
      rcases (by cases T <;> simp : T = true ∨ T = false) with rfl | rfl
      · have HX : Hid (followE l evs = ((k : Int), 9)) := Lib.hid (by have e := HE1.out.trans (evE_prev (x := ⟨xm, xs, xw⟩) Q1.out Q2.out Q3.out HT0.out); have := HBAD.out (by rw [e]; decide); rwa [e] at this)
        clear HBAD HNX
        go_wp2
        go_ret3
        exact ⟨FollowR.bad HX.out (by decide), hBx⟩
      have HADD : Hid (∀ W, Below wo.heap.size wo W → Calls Tryz.prog 168 #[.pointer (some ⟨bk, 0, none⟩), .agg #[.int .i64 xm, .int .i64 xs, .int .i64 xw]] W fun e w' => e = .returned (.tuple #[]) ∧ BkOk l A c B bk base base l.length (addL l ⟨xm, xs, xw⟩ Lk) w' ∧ W.grownBy w' (some base)) := Lib.hid fun W hW => add_any_ l A c B bk base base l.length Lk ⟨xm, xs, xw⟩ W (HBk.out.gr hW) (by show -1000000 ≤ xw ∧ xw ≤ 1000000; omega)
      have HMI2 : Hid (∀ a ∈ addL l ⟨xm, xs, xw⟩ Lk, 0 ≤ a.mi ∧ a.mi ≤ 100000000) := Lib.hid (addL_mi (.inr (by show 0 ≤ xm ∧ xm ≤ 100000000; omega)) HMI.out)
      have hbb := HBk.out.own.lt base rfl
      by_cases hst : xs = -1
      · have hst1 : (xs != -1) = false := by simpa using hst
        have HX := Lib.hid (HNX.out (HE1.out.trans (evE_read (x := ⟨xm, xs, xw⟩) Q1.out Q2.out Q3.out HT0.out hst)))
        have HST := Lib.hid hst; clear hst HBAD HNX
        go_wp2_with fail
        refine (HADD.out _ hZ).mono ?_
        rintro e w3 ⟨rfl, hbk3, hgr3⟩
        have hB3 : Below w.heap.size w w3 := Below.grown hBx hgr3 (Below.size hBx) (fun q e => by cases e; exact hN)
        have HB3 : Hid (BkOk l A c B bk base base l.length (bookL l (evs.take (k + 1))) w3) := Lib.hid (by rw [HSN.out]; exact hbk3)
        have HM3 : Hid (∀ a ∈ bookL l (evs.take (k + 1)), 0 ≤ a.mi ∧ a.mi ≤ 100000000) := Lib.hid (by rw [HSN.out]; exact HMI2.out)
        clear hbk3 hgr3
        go_wp2
        refine ⟨⟨k + 1, by omega, by go_num, HX, HB3, HM3, hB3⟩, by simp [intOf]; omega⟩
      · have hst1 : (xs != -1) = true := by simpa using hst
        obtain ⟨i, rfl⟩ : ∃ i : Nat, xs = (i : Int) := ⟨xs.toNat, by omega⟩
        have hil : i < l.length := by omega
        have HG2 : Hid (evsQ l evs k = if (l[i].needs.all fun n => validV l (addL l ⟨xm, -1, xw⟩ Lk) n.toNat xm) = true then 0 else 20) := Lib.hid (HE1.out.trans (evE_need (x := ⟨xm, (i : Int), xw⟩) Q1.out Q2.out Q3.out HT0.out rfl hil))
        obtain ⟨gs, os, hAs, hgs, s0, s1, s2, s3⟩ := (HL.out.row.below hBr hB).at4 stF_len hil rfl
        have HNRi := Lib.hid ((HL.out.needs _ (List.getElem_mem hil)).2.below hBr hB)
        have HNEi := Lib.hid (HRT.out i hil).2.2
        have hnle := (HL.out.needs _ (List.getElem_mem hil)).1
        subst hAs
        obtain ⟨s, hs⟩ : ∃ s, l[i] = s := ⟨_, rfl⟩
        rw [hs] at s0 s1 s2 s3 HNRi HNEi HG2 hnle
        clear hs s0 s1 s2
        obtain ⟨snm, slasts, swarm, sA, sc, needs⟩ := s
        dsimp only at s3 HNRi HNEi HG2 hnle
        have hgsw : gs < wo.heap.size := by have := Below.size hBr; omega
        have bbk := (HBk.out.gr hZ).blk
        have lbk := bbk.lt
        have k0 := bbk.cell 0; have k1 := bbk.cell 1
        have HLL := Lib.hid HBk.out.len
        have HCL : Hid (∀ W, Below wo.heap.size wo W → Calls Tryz.prog 167 #[.slice (some ⟨base, 0, none⟩) l.length l.length] W fun e w' => ∃ g2 c2, e = .returned (.slice (some ⟨g2, 0, none⟩) l.length c2) ∧ W.heap.size ≤ g2 ∧ w'.ownsRow W.heap.size 246 4 (.slice (some ⟨g2, 0, none⟩) l.length c2) l.length (rowsC laF Lk) ∧ Below W.heap.size W w') := Lib.hid fun W hW => by
          have h := cloneLa_any Lk (some ⟨base, 0, none⟩) l.length W (Src.mk (by rw [HLL.out]; exact own_row_ (own_below HBk.out.own hW)) (fun e => by cases e)) (by rw [HLL.out]; omega)
          rw [HLL.out] at h
          refine h.mono ?_
          rintro e w' ⟨v, rfl, own, hB'⟩
          obtain ⟨A', c', e1, _, hc⟩ := own_shape own
          obtain ⟨g2, e2, hb2, _, _, _⟩ := hc hl0
          subst e2 e1
          exact ⟨g2, c', rfl, hb2, own, hB'⟩
        have HST := Lib.hid hst; clear hst
        go_wp2_with fail
        refine (HCL.out _ hZ).mono ?_
        rintro e w4 ⟨g2, c2', rfl, hg2, own4, hB4⟩
        have hB4' : Below wo.heap.size wo w4 := Below.trans hZ (hB4.mono (by first | exact hZ.size | (have := hZ.size; simpa using this)))
        have hg2' : wo.heap.size < g2 := by omega
        have b5 : Blk w4 wo.heap.size 166 #[.int .i64 xm, .int .i64 (i : Int), .int .i64 xw] := by
          have h := hB4.block wo.heap.size hx0
          exact h.trans b5
        have own4 := own4.mono (base' := wo.heap.size) (by first | exact hZ.size | (have := hZ.size; simpa using this))
        have hw4 : wo.heap.size < w4.heap.size := b5.lt
        have hg24 := (own4.lt g2 rfl).2
        have x0 := b5.cell 0; have x1 := b5.cell 1; have x2 := b5.cell 2
        have s3' := (hB4'.cell (p := ⟨gs, os + i * 4 + 3, none⟩) hgsw).trans s3
        have HB2 : Hid (BkOk l (some ⟨gs, os, none⟩) c B w4.heap.size wo.heap.size g2 c2' Lk (w4.alloc (.cells #[.slice (some ⟨gs, os, none⟩) l.length c, .slice (some ⟨g2, 0, none⟩) l.length c2'] 248))) := Lib.hid ⟨(HBk.out.st.below hB4' HBk.out.st.base).below ((Below.refl _ w4).alloc (Nat.le_refl _) _) (HBk.out.st.below hB4' HBk.out.st.base).base, Blk.new _ _ _, own4.alloc _, HLL.out, by omega, by omega, HBk.out.st.base, hl1, HBk.out.warm⟩
        clear hB4 HCL s3 k0 k1 c0 c1 c2 own4 hg2
        go_wp2_with fail
        refine (add_any_ l (some ⟨gs, os, none⟩) c B w4.heap.size wo.heap.size g2 c2' Lk ⟨xm, -1, xw⟩ _ HB2.out (by show -1000000 ≤ xw ∧ xw ≤ 1000000; omega)).mono ?_
        rintro e w5 ⟨rfl, hbk5, hgr5⟩
        have hB5 : Below wo.heap.size wo w5 := (hB4'.alloc hB4'.size (.cells #[.slice (some ⟨gs, os, none⟩) l.length c, .slice (some ⟨g2, 0, none⟩) l.length c2'] 248 (0, 0))).grown hgr5 (by simp; omega) (fun q e => by cases e; omega)
        have b6 : Blk w5 wo.heap.size 166 #[.int .i64 xm, .int .i64 (i : Int), .int .i64 xw] := (b5.alloc _).grown hgr5 (fun e => by cases e; omega)
        have HB5 := Lib.hid hbk5
        have s5 := (hB5.cell (p := ⟨gs, os + i * 4 + 3, none⟩) hgsw).trans ((hB4'.cell (p := ⟨gs, os + i * 4 + 3, none⟩) hgsw).symm.trans s3')
        have HM5 : Hid (∀ a ∈ addL l ⟨xm, -1, xw⟩ Lk, 0 ≤ a.mi ∧ a.mi ≤ 100000000) := Lib.hid (addL_mi (.inl rfl) HMI.out)
        clear hbk5 hgr5 b5 x0 x1 x2 s3' HB2
        have lb6 := b6.lt
        have x0 := b6.cell 0; have x1 := b6.cell 1; have x2 := b6.cell 2
        have hgs5 : gs < w5.heap.size := by omega
        go_wp2
        rename World => wp
        have hwp : wo.heap.size ≤ wp.heap.size := hB5.size
        have hBp : Below w.heap.size w wp := hBr.trans (hB5.mono (Below.size hBr))
        clear x0 x1 x2 s5
        go_loopw [96] (fun u wq => ∃ n : Nat, n ≤ needs.length ∧ u = .int .i64 n ∧ Hid (((needs.take n).all fun n => validV l (addL l ⟨xm, -1, xw⟩ Lk) n.toNat xm) = true) ∧ Below wp.heap.size wp wq) (fun u _ => needs.length - (intOf u).toNat)
        case atStart => exact ⟨0, Nat.zero_le _, rfl, Lib.hid rfl, Below.refl _ _⟩
        case round => as_aux_lemma =>
          obtain ⟨n, hn, rfl, HAL, hBq⟩ := hrel
          have hB7 : Below wo.heap.size wo wr := hB5.trans (hBq.mono hB5.size)
          have hBF : Below w.heap.size w wr := hBp.trans (hBq.mono hBp.size)
          have b7 := b6.below hBq b6.lt
          have lb7 := b7.lt
          have x0 := b7.cell 0; have x1 := b7.cell 1; have x2 := b7.cell 2
          by_cases hnl : n < needs.length
          · obtain ⟨gn, on, hAn, hgn, e2⟩ := intRow_at (HNRi.out.below hB7 HBk.out.st.base) hnl
            subst hAn
            obtain ⟨n1, n2⟩ := HNEi.out _ (List.getElem_mem hnl)
            have HSN2 := Lib.hid (all_take_snoc needs hnl (fun n => validV l (addL l ⟨xm, -1, xw⟩ Lk) n.toNat xm))
            obtain ⟨t, ht⟩ : ∃ t : Nat, needs[n] = (t : Int) := ⟨needs[n].toNat, by omega⟩
            have HF0 : Hid (validV l (addL l ⟨xm, -1, xw⟩ Lk) t xm = false → (needs.all fun n => validV l (addL l ⟨xm, -1, xw⟩ Lk) n.toNat xm) = false) := Lib.hid fun h => List.all_eq_false.2 ⟨needs[n], List.getElem_mem hnl, by rw [ht, Int.toNat_natCast, h]; simp⟩
            rw [ht] at e2 n1 n2 HSN2
            clear ht
            have hv := valid_any l (some ⟨gs, os, none⟩) c B w4.heap.size wo.heap.size g2 c2' (addL l ⟨xm, -1, xw⟩ Lk) HRT HM5 t xm wr (by omega) (HB5.out.gr hBq)
            obtain ⟨T, hT⟩ : ∃ T, validV l (addL l ⟨xm, -1, xw⟩ Lk) t xm = T := ⟨_, rfl⟩
            rw [hT] at hv HF0
            have HV := Lib.hid hv; have HT := Lib.hid hT
            clear hv hT
            go_wp2_with fail
            refine HV.out.mono ?_
            rintro e w6 ⟨rfl, hB6⟩
            have hBG := hBF.trans (hB6.mono hBF.size)
            have hBq2 := hBq.trans (hB6.mono (Below.size hBq))
            clear hB6
            cases T
            · have HX : Hid (followE l evs = ((k : Int), 20)) := Lib.hid (by have e := HG2.out; rw [HF0.out rfl] at e; have := HBAD.out (by rw [e]; decide); rw [e] at this; exact this)
              clear HBAD HNX
              go_wp2
              go_ret3
              exact ⟨FollowR.bad HX.out (by decide), hBG⟩
            · have HX : Hid (((needs.take (n + 1)).all fun n => validV l (addL l ⟨xm, -1, xw⟩ Lk) n.toNat xm) = true) := Lib.hid (by rw [HSN2.out, HAL.out, Int.toNat_natCast, HT.out]; rfl)
              go_wp2
              refine ⟨⟨n + 1, by omega, by go_num, HX, hBq2⟩, by simp [intOf]; omega⟩
          · obtain rfl : n = needs.length := by omega
            have HX := Lib.hid (HNX.out (by have := HAL.out; rw [List.take_length] at this; rw [HG2.out, this]; rfl))
            clear HBAD HNX
            go_wp2_with fail
            refine (HADD.out _ hB7).mono ?_
            rintro e w8 ⟨rfl, hbk8, hgr8⟩
            have hB8 : Below w.heap.size w w8 := hBF.grown hgr8 (Below.size hBF) (fun q e => by cases e; exact hN)
            have HB8 : Hid (BkOk l (some ⟨gs, os, none⟩) c B bk base base l.length (bookL l (evs.take (k + 1))) w8) := Lib.hid (by rw [HSN.out]; exact hbk8)
            have HM8 : Hid (∀ a ∈ bookL l (evs.take (k + 1)), 0 ≤ a.mi ∧ a.mi ≤ 100000000) := Lib.hid (by rw [HSN.out]; exact HMI2.out)
            clear hbk8 hgr8
            go_wp2
            refine ⟨⟨k + 1, by omega, by go_num, HX, HB8, HM8, hB8⟩, by simp [intOf]; omega⟩
    · obtain rfl : k = evs.length := by omega
      have HX : Hid (FollowR l A c B evs w.heap.size (.returned (.tuple #[.pointer (some ⟨bk, 0, none⟩), .int .i64 0, .int .i64 0])) wr) := Lib.hid (.inr ⟨HFE.out.trans (firstE_end HI.out), HRT.out, by have := HMI.out; rwa [List.take_length] at this, bk, base, base, l.length, hN, rfl, by have := HBk.out; rwa [List.take_length] at this⟩)
      go_wp2
      go_ret3
      exact ⟨HX.out, hBr⟩
end Go.Proofs.YtmdbpkomanhpoaaGreatDoor
