/- Contract: which levels of an office are right. Contract: which set-ups of an office are right (by the program). -/
import Derived.IntWalk
import Derived.Test.YtmdbpkomanhpoaaGreatDoorZqOsB
import Derived.Test.YtmdbpkomanhpoaaGreatDoorZqOsG
import Derived.Test.YtmdbpkomanhpoaaGreatDoorZqOsH
import Derived.Test.YtmdbpkomanhpoaaGreatDoorZqOsN
import Derived.Test.YtmdbpkomanhpoaaGreatDoorZqOsS
import Derived.Test.YtmdbpkomanhpoaaGreatDoorZqCvT
namespace Go.Proofs.YtmdbpkomanhpoaaGreatDoor
open Go.RowKit

/-- A level: from which square on. -/
structure Lv where
  sq : Int
  lv : Int
def lvF (x : Lv) : List Value := [.int .i64 x.sq, .int .i64 x.lv]
theorem lvF_len (p : Lv) : (lvF p).length = 2 := rfl
/-- The error of a level behind another one. -/
def lvQ (p : Option Lv) (x : Lv) : Int := if wi x.sq 0 1000000000000000 = false then 2 else if wi x.lv 1 200 = false then 2 else match p with
  | none => 0
  | some y => if x.sq ≤ y.sq then 9 else if x.lv ≤ y.lv then 9 else 0
def lvE (l : List Lv) (k : Nat) : Int := match l[k]? with
  | none => 0
  | some x => lvQ (if k = 0 then none else l[k - 1]?) x
/-- The error of levels, with a number. -/
def levelsE (l : List Lv) : Int × Int := if 20 < l.length then (0, 8) else firstE (lvE l) l.length
theorem lvE_zero {l : List Lv} (h : 0 < l.length) : lvE l 0 = lvQ none l[0] := by
  unfold lvE; rw [List.getElem?_eq_getElem h]; rfl
theorem lvE_succ {l : List Lv} {k : Nat} (h : k + 1 < l.length) : lvE l (k + 1) = lvQ (some (l[k]'(by omega))) l[k + 1] := by
  unfold lvE
  rw [List.getElem?_eq_getElem h]
  show lvQ (if k + 1 = 0 then none else l[k]?) _ = _
  rw [if_neg (by omega), List.getElem?_eq_getElem (by omega)]
theorem lvQ_cases (p : Option Lv) (x : Lv) : (wi x.sq 0 1000000000000000 = false ∧ lvQ p x = 2) ∨ (wi x.sq 0 1000000000000000 = true ∧ wi x.lv 1 200 = false ∧ lvQ p x = 2) ∨
    (wi x.sq 0 1000000000000000 = true ∧ wi x.lv 1 200 = true ∧ lvQ p x = match p with
      | none => 0
      | some y => if x.sq ≤ y.sq then 9 else if x.lv ≤ y.lv then 9 else 0) := by
  unfold lvQ
  cases wi x.sq 0 1000000000000000
  · exact .inl ⟨rfl, rfl⟩
  · cases wi x.lv 1 200
    · exact .inr (.inl ⟨rfl, rfl, rfl⟩)
    · exact .inr (.inr ⟨rfl, rfl, by rw [if_neg (by simp), if_neg (by simp)]⟩)

/-- Levels in memory. -/
structure LvOk (l : List Lv) (A : Option Addr) (c B : Nat) (w : World) : Prop where
  len : l.length ≤ c
  cap : c ≤ 9223372036854775807
  row : Row w B 2 A l.length (rowsC lvF l)
  base : B ≤ w.heap.size
theorem LvOk.below {l : List Lv} {A : Option Addr} {c B C : Nat} {w w' : World} (h : LvOk l A c B w) (hb : Below C w w') (hC : B ≤ C) : LvOk l A c B w' :=
  ⟨h.len, h.cap, h.row.below hb hC, Nat.le_trans h.base hb.size⟩

set_option maxRecDepth 100000 in
set_option maxHeartbeats 1000000 in
theorem levelsErr_any (l : List Lv) (A : Option Addr) (c B : Nat) (w : World) (hl : LvOk l A c B w) :
    Calls Tryz.prog 82 #[.slice A l.length c] w fun e w' => e = .returned (.tuple #[.int .i64 (levelsE l).1, .int .i64 (levelsE l).2]) ∧ Below w.heap.size w w' := by
  obtain ⟨h3, h4, hR, hB⟩ := hl
  by_cases t3 : 20 < l.length
  · have HE : Hid (levelsE l = (0, 8)) := by unfold levelsE; rw [if_pos t3]; rfl
    have t3' : (20 : Int) < (l.length : Int) := by omega
    go_enter Tryz.func82, Tryz.ntmps82
    go_wp2
    go_ret2
    exact ⟨by rw [HE.out]; rfl, (by repeat (first | (with_reducible exact Below.refl _ _) | (with_reducible assumption) | ((with_reducible refine Below.setCell ?_ ?_ _); rotate_left; · (first | exact Nat.le_refl _ | (simp; done) | (simp; omega) | omega)) | ((with_reducible refine Below.alloc ?_ ?_ _); rotate_left; · (first | exact Nat.le_refl _ | (simp; done) | (simp; omega) | omega)) | (with_reducible apply Below.drew) | (with_reducible apply below_drewN') | (refine Below.trans ?_ (Below.mono (by assumption) (by first | exact Nat.le_refl _ | (simp; done) | (simp; omega) | omega))) | exact Below.refl _ _ | assumption))⟩
  · have HE : Hid (levelsE l = firstE (lvE l) l.length) := by unfold levelsE; rw [if_neg t3]; rfl
    have t3' : (l.length : Int) ≤ 20 := by omega
    have t4 : decide ((20 : Int) < (l.length : Int)) = false := by simp; omega
    clear t3
    go_enter Tryz.func82, Tryz.ntmps82
    go_wp2
    go_loopw [11] (fun i wr => ∃ k : Nat, k ≤ l.length ∧ i = .int .i64 k ∧ Hid (FineTo (lvE l) k) ∧ Below w.heap.size w wr) (fun i _ => l.length - (intOf i).toNat)
    case atStart => exact ⟨0, Nat.zero_le _, rfl, Lib.hid (FineTo.zero _), Below.refl _ _⟩
    case round =>
      obtain ⟨k, hk, rfl, HI, hBB⟩ := hrel
      by_cases hlt : k < l.length
      · have hRw := Lib.hid (hR.below hBB hB)
        obtain ⟨g, o, hA, hg, c0, c1⟩ := hRw.out.at2 lvF_len hlt rfl
        subst hA
        have HBAD : Hid (lvE l k ≠ 0 → levelsE l = ((k : Int), lvE l k)) := Lib.hid (fun he => HE.out.trans (firstE_bad HI.out hlt he))
        have HNX : Hid (lvE l k = 0 → FineTo (lvE l) (k + 1)) := Lib.hid (fun he => HI.out.step he)
        have hgw : g < wr.heap.size := by have := Below.size hBB; omega
        have HPV : Hid (∀ j (_ : k = j + 1), lvE l (j + 1) = lvQ (some (l[j]'(by omega))) (l[j + 1]'(by omega)) ∧ wr.cell? ⟨g, o + j * 2, none⟩ = some (.int .i64 (l[j]'(by omega)).sq) ∧ wr.cell? ⟨g, o + j * 2 + 1, none⟩ = some (.int .i64 (l[j]'(by omega)).lv)) := Lib.hid fun j hj => by
          obtain ⟨g', o', hA', _, d0, d1⟩ := hRw.out.at2 lvF_len (show j < l.length by omega) rfl
          cases hA'
          exact ⟨lvE_succ (by omega), d0, d1⟩
        have HZ : Hid (∀ (_ : k = 0), lvE l 0 = lvQ none (l[0]'(by omega))) := Lib.hid fun _ => lvE_zero (by omega)
        have b1 := Blk.new wr 111 #[.int .i64 l[k].sq, .int .i64 l[k].lv]
        have hBw : Below w.heap.size w (wr.alloc (.cells #[.int .i64 l[k].sq, .int .i64 l[k].lv] 111)) := Below.alloc hBB (Below.size hBB) _
        clear hRw HI hR
        rcases k with _ | j
        · have hZ := HZ.out rfl
          simp only [Nat.zero_mul, Nat.add_zero] at c0 c1
          clear HPV HZ
          generalize l[0] = x at *
          have HQ := lvQ_cases none x
          rw [← hZ] at HQ
          clear hZ
          rcases HQ with ⟨x1, y⟩ | ⟨x1, x2, y⟩ | ⟨x1, x2, y⟩
          · have HX : Hid (levelsE l = (0, 2)) := Lib.hid ((HBAD.out (by rw [y]; simp)).trans (by rw [y]; rfl))
            clear HBAD HNX y
            go_wp2_with (go_at_call 79; refine (oWithin_any _ _ _ _).mono ?_; rintro e w1 ⟨rfl, rfl⟩)
            go_ret2
            exact ⟨by rw [HX.out]; rfl, hBw⟩
          · have HX : Hid (levelsE l = (0, 2)) := Lib.hid ((HBAD.out (by rw [y]; simp)).trans (by rw [y]; rfl))
            clear HBAD HNX y
            go_wp2_with (go_at_call 79; refine (oWithin_any _ _ _ _).mono ?_; rintro e w1 ⟨rfl, rfl⟩)
            go_ret2
            exact ⟨by rw [HX.out]; rfl, hBw⟩
          · have HX : Hid (FineTo (lvE l) (0 + 1)) := Lib.hid (HNX.out y)
            clear HBAD HNX y
            go_wp2_with (go_at_call 79; refine (oWithin_any _ _ _ _).mono ?_; rintro e w1 ⟨rfl, rfl⟩)
            go_quiet (fail)
            go_wp2
            refine ⟨⟨0 + 1, by omega, by go_num, HX, by first | exact hBw | exact below_drewN' hBw _⟩, by simp [intOf]; omega⟩
        · obtain ⟨hZ, d0, d1⟩ := HPV.out j rfl
          clear HPV HZ
          have hj : ((j + 1 : Nat) : Int) - 1 = (j : Int) := by omega
          have hj1 : j < l.length := by omega
          have hj2 : (j : Int) < (l.length : Int) := by omega
          have hj3 : (0 : Int) ≤ (j : Int) := by omega
          generalize l[j + 1] = x at *
          generalize l[j] = z at *
          have HQ := lvQ_cases (some z) x
          rw [← hZ] at HQ
          clear hZ
          rcases HQ with ⟨x1, y⟩ | ⟨x1, x2, y⟩ | ⟨x1, x2, y⟩
          · have HX : Hid (levelsE l = (((j + 1 : Nat) : Int), 2)) := Lib.hid ((HBAD.out (by rw [y]; simp)).trans (by rw [y]))
            clear HBAD HNX y
            go_wp2_with (go_at_call 79; refine (oWithin_any _ _ _ _).mono ?_; rintro e w1 ⟨rfl, rfl⟩)
            go_ret2
            exact ⟨by rw [HX.out]; rfl, hBw⟩
          · have HX : Hid (levelsE l = (((j + 1 : Nat) : Int), 2)) := Lib.hid ((HBAD.out (by rw [y]; simp)).trans (by rw [y]))
            clear HBAD HNX y
            go_wp2_with (go_at_call 79; refine (oWithin_any _ _ _ _).mono ?_; rintro e w1 ⟨rfl, rfl⟩)
            go_ret2
            exact ⟨by rw [HX.out]; rfl, hBw⟩
          · dsimp only at y
            by_cases x3 : x.sq ≤ z.sq
            · rw [if_pos x3] at y
              have HX : Hid (levelsE l = (((j + 1 : Nat) : Int), 9)) := Lib.hid ((HBAD.out (by rw [y]; simp)).trans (by rw [y]))
              clear HBAD HNX y
              go_wp2_with (go_at_call 79; refine (oWithin_any _ _ _ _).mono ?_; rintro e w1 ⟨rfl, rfl⟩)
              have hwj : IntKind.i64.wrap (j : Int) = (j : Int) := IntWalk.i64_in _ (by omega)
              go_quiet (fail)
              clear hwj
              go_wp2
              go_ret2
              exact ⟨by rw [HX.out]; rfl, by first | exact hBw | exact below_drewN' hBw _⟩
            · rw [if_neg x3] at y
              by_cases x4 : x.lv ≤ z.lv
              · rw [if_pos x4] at y
                have HX : Hid (levelsE l = (((j + 1 : Nat) : Int), 9)) := Lib.hid ((HBAD.out (by rw [y]; simp)).trans (by rw [y]))
                clear HBAD HNX y
                go_wp2_with (go_at_call 79; refine (oWithin_any _ _ _ _).mono ?_; rintro e w1 ⟨rfl, rfl⟩)
                have hwj : IntKind.i64.wrap (j : Int) = (j : Int) := IntWalk.i64_in _ (by omega)
                go_quiet (fail)
                clear hwj
                go_wp2
                go_ret2
                exact ⟨by rw [HX.out]; rfl, by first | exact hBw | exact below_drewN' hBw _⟩
              · rw [if_neg x4] at y
                have HX : Hid (FineTo (lvE l) (j + 1 + 1)) := Lib.hid (HNX.out y)
                clear HBAD HNX y
                go_wp2_with (go_at_call 79; refine (oWithin_any _ _ _ _).mono ?_; rintro e w1 ⟨rfl, rfl⟩)
                have hwj : IntKind.i64.wrap (j : Int) = (j : Int) := IntWalk.i64_in _ (by omega)
                go_quiet (fail)
                clear hwj
                go_wp2
                refine ⟨⟨j + 1 + 1, by omega, by go_num, HX, by first | exact hBw | exact below_drewN' hBw _⟩, by simp [intOf]; omega⟩
      · obtain rfl : k = l.length := by omega
        have HX : Hid (levelsE l = (0, 0)) := Lib.hid (HE.out.trans (firstE_end HI.out))
        go_wp2
        go_ret2
        exact ⟨by rw [HX.out]; rfl, hBB⟩
end Go.Proofs.YtmdbpkomanhpoaaGreatDoor

namespace Go.Proofs.YtmdbpkomanhpoaaGreatDoor
open Go.RowKit

/-- A set-up. -/
structure Se where
  pe : List Pe
  cd : Cd
  thick : Int
  st : List St
  tk : Tk
  gf : Int
  gt : Int
  lv : List Lv
/-- Where its lists lie. -/
structure Me where
  pA : Option Addr
  pc : Nat
  eA : Option Addr
  ec : Nat
  rA : Option Addr
  rc : Nat
  sA : Option Addr
  sc : Nat
  lA : Option Addr
  lc : Nat
abbrev seC (s : Se) (m : Me) : Array Value := #[.slice m.pA s.pe.length m.pc, .string s.cd.nm, .slice m.eA s.cd.ex.length m.ec, .slice m.rA s.cd.rows.length m.rc, .int .i64 s.thick, .slice m.sA s.st.length m.sc, .int .i64 s.tk.frm, .int .i64 s.tk.til, .int .i64 s.tk.slip, .int .i64 s.tk.reach, .int .i64 s.gf, .int .i64 s.gt, .slice m.lA s.lv.length m.lc]
/-- A set-up in memory. -/
structure SeOk (s : Se) (m : Me) (B : Nat) (w : World) : Prop where
  pe : PeOk s.pe m.pA m.pc B w
  cd : CdOk s.cd m.eA m.ec m.rA m.rc B w
  st : StOk s.st m.sA m.sc B w
  lv : LvOk s.lv m.lA m.lc B w
theorem SeOk.below {s : Se} {m : Me} {B C : Nat} {w w' : World} (h : SeOk s m B w) (hb : Below C w w') (hC : B ≤ C) : SeOk s m B w' :=
  ⟨h.pe.below hb hC, h.cd.below hb hC, h.st.below hb hC, h.lv.below hb hC⟩
theorem SeOk.base {s : Se} {m : Me} {B : Nat} {w : World} (h : SeOk s m B w) : B ≤ w.heap.size := h.pe.base
/-- The error of a set-up, with a number. -/
def setupE' (s : Se) : Int × Int :=
  if (peopleE s.pe).2 = 0 then
    if (codeE s.cd).2 = 0 then
      if wi s.thick 1 20000 = true then
        if (stepsE s.st).2 = 0 then
          if trackE s.tk = 0 then
            if wi s.gf 0 s.gt = true then
              if 60 < s.gt then (0, 2) else levelsE s.lv
            else (0, 2)
          else (0, trackE s.tk)
        else (0, (stepsE s.st).2)
      else (0, 2)
    else (0, (codeE s.cd).2)
  else peopleE s.pe
theorem blk13 {w : World} {g t : Nat} {v0 v1 v2 v3 v4 v5 v6 v7 v8 v9 v10 v11 v12 : Value} (h : Blk w g t #[v0, v1, v2, v3, v4, v5, v6, v7, v8, v9, v10, v11, v12]) : w.cell? ⟨g, 0, none⟩ = some v0 ∧ w.cell? ⟨g, 1, none⟩ = some v1 ∧ w.cell? ⟨g, 2, none⟩ = some v2 ∧ w.cell? ⟨g, 3, none⟩ = some v3 ∧ w.cell? ⟨g, 4, none⟩ = some v4 ∧ w.cell? ⟨g, 5, none⟩ = some v5 ∧ w.cell? ⟨g, 6, none⟩ = some v6 ∧ w.cell? ⟨g, 7, none⟩ = some v7 ∧ w.cell? ⟨g, 8, none⟩ = some v8 ∧ w.cell? ⟨g, 9, none⟩ = some v9 ∧ w.cell? ⟨g, 10, none⟩ = some v10 ∧ w.cell? ⟨g, 11, none⟩ = some v11 ∧ w.cell? ⟨g, 12, none⟩ = some v12 ∧ ∀ i, w.frozen? ⟨g, i, none⟩ = false := ⟨h.cell 0, h.cell 1, h.cell 2, h.cell 3, h.cell 4, h.cell 5, h.cell 6, h.cell 7, h.cell 8, h.cell 9, h.cell 10, h.cell 11, h.cell 12, h.frozen⟩

set_option maxRecDepth 100000 in
set_option maxHeartbeats 4000000 in
theorem checkSetup_any' (s : Se) (m : Me) (B : Nat) (w : World) (hs : SeOk s m B w) (hQ : Quant w) :
    Calls Tryz.prog 58 #[.agg (seC s m)] w fun e w' => e = .returned (.tuple #[.int .i64 (setupE' s).1, .int .i64 (setupE' s).2]) ∧ Below w.heap.size w w' := by
  have HS := Lib.hid hs; have HQ := Lib.hid hQ; clear hs hQ
  have b0 := Blk.new w 33 (seC s m)
  have hBB : Below w.heap.size w (w.alloc (.cells (seC s m) 33)) := (by repeat (first | (with_reducible exact Below.refl _ _) | (with_reducible assumption) | ((with_reducible refine Below.setCell ?_ ?_ _); rotate_left; · (first | exact Nat.le_refl _ | (simp; done) | (simp; omega) | omega)) | ((with_reducible refine Below.alloc ?_ ?_ _); rotate_left; · (first | exact Nat.le_refl _ | (simp; done) | (simp; omega) | omega)) | (with_reducible apply Below.drew) | (with_reducible apply below_drewN') | (refine Below.trans ?_ (Below.mono (by assumption) (by first | exact Nat.le_refl _ | (simp; done) | (simp; omega) | omega))) | exact Below.refl _ _ | assumption))
  have HBASE := Lib.hid HS.out.base
  have HE : Hid (setupE' s = setupE' s) := Lib.hid rfl
  go_enter Tryz.func58, Tryz.ntmps58
  obtain ⟨HCALL0⟩ : Nonempty Unit := ⟨()⟩
  clear HCALL0
  obtain ⟨i1, e1, hp⟩ : ∃ i1 e1, peopleE s.pe = (i1, e1) := ⟨_, _, rfl⟩
  have HP := Lib.hid hp; clear hp
  go_wp2_with fail
  refine (peopleErr_any s.pe m.pA m.pc B _ (HS.out.pe.below hBB HBASE.out)).mono ?_
  rw [HP.out]
  rintro e w1 ⟨rfl, hB1⟩
  replace b0 := b0.below hB1 b0.lt
  replace hBB := hBB.trans (hB1.mono hBB.size)
  clear hB1
  obtain ⟨d0, d1, d2, d3, d4, d5, d6, d7, d8, d9, d10, d11, d12, df⟩ := blk13 b0
  rcases (Classical.em (e1 = 0)).symm with he1 | he1
  · have hn1 : (e1 != 0) = true := by simpa using he1
    have HX : Hid (setupE' s = (i1, e1)) := Lib.hid (by unfold setupE'; rw [HP.out]; dsimp only; rw [if_neg he1])
    have HE1 := Lib.hid he1; clear he1
    go_wp2
    go_ret2
    exact ⟨by rw [HX.out]; rfl, hBB⟩
  have hn1 : (e1 != 0) = false := by simpa using he1
  have HE1 := Lib.hid he1; clear he1
  obtain ⟨i2, e2, hp⟩ : ∃ i2 e2, codeE s.cd = (i2, e2) := ⟨_, _, rfl⟩
  have HC := Lib.hid hp; clear hp
  go_wp2_with fail
  refine (cdCheckCode_any s.cd m.eA m.ec m.rA m.rc B _ (HS.out.cd.below hBB HBASE.out) (HQ.out.below hBB (Nat.le_refl _))).mono ?_
  rw [HC.out]
  rintro e w2 ⟨rfl, hB1⟩
  replace b0 := b0.below hB1 b0.lt
  replace hBB := hBB.trans (hB1.mono hBB.size)
  clear hB1 d0 d1 d2 d3 d4 d5 d6 d7 d8 d9 d10 d11 d12 df
  obtain ⟨d0, d1, d2, d3, d4, d5, d6, d7, d8, d9, d10, d11, d12, df⟩ := blk13 b0
  rcases (Classical.em (e2 = 0)).symm with he2 | he2
  · have hn2 : (e2 != 0) = true := by simpa using he2
    have HX : Hid (setupE' s = (0, e2)) := Lib.hid (by unfold setupE'; rw [HP.out, HC.out]; dsimp only; rw [if_pos HE1.out]; rw [if_neg he2])
    have HE2 := Lib.hid he2; clear he2
    go_wp2
    go_ret2
    exact ⟨by rw [HX.out]; rfl, hBB⟩
  have hn2 : (e2 != 0) = false := by simpa using he2
  have HE2 := Lib.hid he2; clear he2
  rcases (by cases wi s.thick 1 20000 <;> simp : wi s.thick 1 20000 = false ∨ wi s.thick 1 20000 = true) with hw3 | hw3
  · have HX : Hid (setupE' s = (0, 2)) := Lib.hid (by unfold setupE'; rw [HP.out, HC.out]; dsimp only; rw [if_pos HE1.out]; rw [if_pos HE2.out]; rw [if_neg (by rw [hw3]; simp)])
    go_wp2_with (go_at_call 79; refine (oWithin_any _ _ _ _).mono ?_; rw [hw3]; rintro e w1 ⟨rfl, rfl⟩)
    go_ret2
    exact ⟨by rw [HX.out]; rfl, hBB⟩
  have HWA : Hid (∀ w : World, Calls Tryz.prog 79 #[.int .i64 s.thick, .int .i64 1, .int .i64 20000] w fun e w' => e = .returned (.bool true) ∧ w = w') := Lib.hid fun w => by have := oWithin_any s.thick 1 20000 w; rwa [hw3] at this
  have HW3 := Lib.hid hw3; clear hw3
  obtain ⟨i4, e4, hp⟩ : ∃ i4 e4, stepsE s.st = (i4, e4) := ⟨_, _, rfl⟩
  have HT := Lib.hid hp; clear hp
  go_wp2_with (go_at_call 79; refine (HWA.out _).mono ?_; rintro e w1 ⟨rfl, rfl⟩)
  refine (cdCheckSteps_any s.st m.sA m.sc B _ (HS.out.st.below hBB HBASE.out)).mono ?_
  rw [HT.out]
  rintro e w4 ⟨rfl, hB1⟩
  replace b0 := b0.below hB1 b0.lt
  replace hBB := hBB.trans (hB1.mono hBB.size)
  clear hB1 d0 d1 d2 d3 d4 d5 d6 d7 d8 d9 d10 d11 d12 df
  obtain ⟨d0, d1, d2, d3, d4, d5, d6, d7, d8, d9, d10, d11, d12, df⟩ := blk13 b0
  rcases (Classical.em (e4 = 0)).symm with he4 | he4
  · have hn4 : (e4 != 0) = true := by simpa using he4
    have HX : Hid (setupE' s = (0, e4)) := Lib.hid (by unfold setupE'; rw [HP.out, HC.out, HT.out]; dsimp only; rw [if_pos HE1.out]; rw [if_pos HE2.out]; rw [if_pos HW3.out]; rw [if_neg he4])
    have HE4 := Lib.hid he4; clear he4
    go_wp2
    go_ret2
    exact ⟨by rw [HX.out]; rfl, hBB⟩
  have hn4 : (e4 != 0) = false := by simpa using he4
  have HE4 := Lib.hid he4; clear he4
  obtain ⟨e5, hp⟩ : ∃ e5, trackE s.tk = e5 := ⟨_, rfl⟩
  have HK := Lib.hid hp; clear hp
  go_wp2_with fail
  refine (checkTrack_any s.tk _).mono ?_
  rw [HK.out]
  rintro e w5 ⟨rfl, hB1⟩
  replace b0 := b0.below hB1 b0.lt
  replace hBB := hBB.trans (hB1.mono hBB.size)
  clear hB1 d0 d1 d2 d3 d4 d5 d6 d7 d8 d9 d10 d11 d12 df
  obtain ⟨d0, d1, d2, d3, d4, d5, d6, d7, d8, d9, d10, d11, d12, df⟩ := blk13 b0
  rcases (Classical.em (e5 = 0)).symm with he5 | he5
  · have hn5 : (e5 != 0) = true := by simpa using he5
    have HX : Hid (setupE' s = (0, e5)) := Lib.hid (by unfold setupE'; rw [HP.out, HC.out, HT.out, HK.out]; dsimp only; rw [if_pos HE1.out]; rw [if_pos HE2.out]; rw [if_pos HW3.out]; rw [if_pos HE4.out]; rw [if_neg he5])
    have HE5 := Lib.hid he5; clear he5
    go_wp2
    go_ret2
    exact ⟨by rw [HX.out]; rfl, hBB⟩
  have hn5 : (e5 != 0) = false := by simpa using he5
  have HE5 := Lib.hid he5; clear he5
  rcases (by cases wi s.gf 0 s.gt <;> simp : wi s.gf 0 s.gt = false ∨ wi s.gf 0 s.gt = true) with hw6 | hw6
  · have HX : Hid (setupE' s = (0, 2)) := Lib.hid (by unfold setupE'; rw [HP.out, HC.out, HT.out, HK.out]; dsimp only; rw [if_pos HE1.out]; rw [if_pos HE2.out]; rw [if_pos HW3.out]; rw [if_pos HE4.out]; rw [if_pos HE5.out]; rw [if_neg (by rw [hw6]; simp)])
    go_wp2_with (go_at_call 79; refine (oWithin_any _ _ _ _).mono ?_; rw [hw6]; rintro e w1 ⟨rfl, rfl⟩)
    go_ret2
    exact ⟨by rw [HX.out]; rfl, hBB⟩
  by_cases hg : 60 < s.gt
  · have HX : Hid (setupE' s = (0, 2)) := Lib.hid (by unfold setupE'; rw [HP.out, HC.out, HT.out, HK.out]; dsimp only; rw [if_pos HE1.out]; rw [if_pos HE2.out]; rw [if_pos HW3.out]; rw [if_pos HE4.out]; rw [if_pos HE5.out]; rw [if_pos hw6]; rw [if_pos hg])
    go_wp2_with (go_at_call 79; refine (oWithin_any _ _ _ _).mono ?_; rw [hw6]; rintro e w1 ⟨rfl, rfl⟩)
    go_ret2
    exact ⟨by rw [HX.out]; rfl, hBB⟩
  have HX : Hid (setupE' s = levelsE s.lv) := Lib.hid (by unfold setupE'; rw [HP.out, HC.out, HT.out, HK.out]; dsimp only; rw [if_pos HE1.out]; rw [if_pos HE2.out]; rw [if_pos HW3.out]; rw [if_pos HE4.out]; rw [if_pos HE5.out]; rw [if_pos hw6]; rw [if_neg hg])
  go_wp2_with (go_at_call 79; refine (oWithin_any _ _ _ _).mono ?_; rw [hw6]; rintro e w1 ⟨rfl, rfl⟩)
  refine (levelsErr_any s.lv m.lA m.lc B _ (HS.out.lv.below hBB HBASE.out)).mono ?_
  rintro e w7 ⟨rfl, hB1⟩
  replace hBB := hBB.trans (hB1.mono hBB.size)
  go_wp2
  go_ret2
  exact ⟨by rw [HX.out]; rfl, hBB⟩
end Go.Proofs.YtmdbpkomanhpoaaGreatDoor
