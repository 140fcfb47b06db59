/- Contracts: the people of an office: a person by the name, which people are right. -/
import Derived.Test.YtmdbpkomanhpoaaGreatDoorZqOsB
import Derived.Test.YtmdbpkomanhpoaaGreatDoorZqOsG
namespace Go.Proofs.YtmdbpkomanhpoaaGreatDoor
open Go.RowKit

/-- A person. -/
structure Pe where
  nm : ByteArray
  role : Int
def peF (p : Pe) : List Value := [.string p.nm, .int .i64 p.role]
theorem peF_len (p : Pe) : (peF p).length = 2 := rfl

set_option maxHeartbeats 400000 in
theorem samePe_any (p : Pe) (nm' : ByteArray) (b : Nat) (w : World) (hc : w.cell? ⟨b, 0, none⟩ = some (.string nm')) :
    Calls Tryz.prog 62 #[.agg #[.string p.nm, .int .i64 p.role], .pointer (some ⟨b, 0, none⟩)] w fun e w' => e = .returned (.bool (sameB p.nm nm')) ∧ Below w.heap.size w w' := by
  have hlt := World.block_lt_of_cell? _ _ hc
  go_enter Tryz.func62, Tryz.ntmps62
  go_wp2
  go_ret
  exact ⟨rfl, (by repeat (first | (with_reducible exact Below.refl _ _) | (with_reducible assumption) | ((with_reducible refine Below.setCell ?_ ?_ _); rotate_left; · (first | exact Nat.le_refl _ | (simp; done) | (simp; omega) | omega)) | ((with_reducible refine Below.alloc ?_ ?_ _); rotate_left; · (first | exact Nat.le_refl _ | (simp; done) | (simp; omega) | omega)) | (with_reducible apply Below.drew) | (with_reducible apply below_drewN') | (refine Below.trans ?_ (Below.mono (by assumption) (by first | exact Nat.le_refl _ | (simp; done) | (simp; omega) | omega))) | exact Below.refl _ _ | assumption))⟩

set_option maxHeartbeats 1000000 in
theorem idxPe (l : List Pe) (A : Option Addr) (c : Nat) (nm' : ByteArray) (b : Nat) (B : Nat) (w : World) (hn : l.length ≤ 1000000) (hR : Row w B 2 A l.length (rowsC peF l)) (hB : B ≤ w.heap.size) (hc : w.cell? ⟨b, 0, none⟩ = some (.string nm')) :
    Calls Tryz.prog 61 #[.slice A l.length c, .func (.func 62) #[] #[.pointer (some ⟨b, 0, none⟩)]] w fun e w' => e = .returned (.int .i64 (idxV (fun p => sameB p.nm nm') l)) ∧ Below w.heap.size w w' := by
  go_enter Tryz.func61, Tryz.ntmps61
  go_wp2
  go_loopw [8] (fun i wr => ∃ k : Nat, k ≤ l.length ∧ i = .int .i64 k ∧ Hid ((l.take k).any (fun p => sameB p.nm nm') = false) ∧ Below w.heap.size w wr) (fun i _ => l.length - (intOf i).toNat)
  case atStart => exact ⟨0, Nat.zero_le _, rfl, rfl, Below.refl _ _⟩
  case round =>
    obtain ⟨k, hk, rfl, HI, hB'⟩ := hrel
    by_cases hlt : k < l.length
    · obtain ⟨g, o, hA, hg, c0, c1⟩ := (hR.below hB' hB).at2 peF_len hlt rfl
      subst hA
      have hcb := (hB'.cell (p := ⟨b, 0, none⟩) (World.block_lt_of_cell? _ _ hc)).trans hc
      cases hs : (fun p => sameB p.nm nm') l[k]
      · have HS := Lib.hid hs; clear hs
        go_wp2_with fail
        refine (samePe_any l[k] nm' b _ hcb).mono ?_
        rw [HS.out]
        rintro e w1 ⟨rfl, hB1⟩; obtain ⟨hc1, hf1⟩ := bcell hB1; have hz1 := hB1.size; (try simp at hz1)
        go_wp2
        refine ⟨⟨k + 1, by omega, by go_num, by rw [any_take_snoc _ _ hlt, HI.out, HS.out]; rfl, Below.trans hB' (hB1.mono (Below.size hB'))⟩, by simp [intOf]; omega⟩
      · have HS := Lib.hid (idxV_hit hlt HI.out hs); have HS2 := Lib.hid hs; clear hs
        go_wp2_with fail
        refine (samePe_any l[k] nm' b _ hcb).mono ?_
        rw [HS2.out]
        rintro e w1 ⟨rfl, hB1⟩; obtain ⟨hc1, hf1⟩ := bcell hB1; have hz1 := hB1.size; (try simp at hz1)
        go_wp2
        go_ret
        exact ⟨by rw [HS.out]; rfl, Below.trans hB' (hB1.mono (Below.size hB'))⟩
    · obtain rfl : k = l.length := by omega
      have HS : Hid _ := Lib.hid (idxV_none (by rw [List.take_length] at HI; exact HI.out))
      go_wp2
      go_ret
      exact ⟨by rw [HS.out]; rfl, hB'⟩

set_option maxHeartbeats 400000 in
theorem person_any (l : List Pe) (A : Option Addr) (c : Nat) (nm : ByteArray) (B : Nat) (w : World) (hn : l.length ≤ 1000000) (hR : Row w B 2 A l.length (rowsC peF l)) (hB : B ≤ w.heap.size) :
    Calls Tryz.prog 46 #[.slice A l.length c, .string nm] w fun e w' => e = .returned (.int .i64 (idxV (fun p => sameB p.nm nm) l)) ∧ Below w.heap.size w w' := by
  have bn := Blk.new w 9 #[.string nm]
  have hb0 := bn.cell 0
  go_enter Tryz.func46, Tryz.ntmps46
  go_wp2_with fail
  refine (idxPe l A c nm w.heap.size B _ hn (hR.alloc hB _) (by simp; omega) hb0).mono ?_
  rintro e w1 ⟨rfl, hB1⟩
  go_wp2
  go_ret
  exact ⟨rfl, Below.trans ((Below.refl _ _).alloc (Nat.le_refl _) _) (hB1.mono (by simp))⟩

/-- The error of a person. -/
def peE (l : List Pe) (k : Nat) : Int := match l[k]? with
  | none => 0
  | some p => if nameB p.nm = false then 4 else if wi p.role 1 3 = false then 15 else if (l.take k).any (fun q => sameB q.nm p.nm) = true then 5 else 0
theorem peE_at {l : List Pe} {k : Nat} (h : k < l.length) : peE l k = if nameB l[k].nm = false then 4 else if wi l[k].role 1 3 = false then 15 else if (l.take k).any (fun q => sameB q.nm l[k].nm) = true then 5 else 0 := by
  unfold peE; rw [List.getElem?_eq_getElem h]
/-- The error of people, with a number. -/
def peopleE (l : List Pe) : Int × Int := if l.length = 0 then (0, 10) else if 20 < l.length then (0, 8) else firstE (peE l) l.length

/-- People in memory. -/
structure PeOk (l : List Pe) (A : Option Addr) (c B : Nat) (w : World) : Prop where
  nm : ∀ p ∈ l, p.nm.size ≤ 1000000000000
  len : l.length ≤ c
  cap : c ≤ 9223372036854775807
  row : Row w B 2 A l.length (rowsC peF l)
  base : B ≤ w.heap.size
theorem PeOk.below {l : List Pe} {A : Option Addr} {c B C : Nat} {w w' : World} (h : PeOk l A c B w) (hb : Below C w w') (hC : B ≤ C) : PeOk l A c B w' :=
  ⟨h.nm, h.len, h.cap, h.row.below hb hC, Nat.le_trans h.base hb.size⟩

set_option maxRecDepth 100000 in
set_option maxHeartbeats 1000000 in
theorem peopleErr_any (l : List Pe) (A : Option Addr) (c B : Nat) (w : World) (hl : PeOk l A c B w) :
    Calls Tryz.prog 77 #[.slice A l.length c] w fun e w' => e = .returned (.tuple #[.int .i64 (peopleE l).1, .int .i64 (peopleE l).2]) ∧ Below w.heap.size w w' := by
  obtain ⟨h1, h3, h4, hR, hB⟩ := hl
  by_cases t0 : l.length = 0
  · have HE : Hid (peopleE l = (0, 10)) := by unfold peopleE; rw [if_pos t0]; rfl
    have t1 : ((l.length : Int) == 0) = true := by simpa using t0
    have T0 := Lib.hid t0; clear t0
    go_enter Tryz.func77, Tryz.ntmps77
    go_wp2
    go_ret2
    exact ⟨by rw [HE.out]; rfl, (by repeat (first | (with_reducible exact Below.refl _ _) | (with_reducible assumption) | ((with_reducible refine Below.setCell ?_ ?_ _); rotate_left; · (first | exact Nat.le_refl _ | (simp; done) | (simp; omega) | omega)) | ((with_reducible refine Below.alloc ?_ ?_ _); rotate_left; · (first | exact Nat.le_refl _ | (simp; done) | (simp; omega) | omega)) | (with_reducible apply Below.drew) | (with_reducible apply below_drewN') | (refine Below.trans ?_ (Below.mono (by assumption) (by first | exact Nat.le_refl _ | (simp; done) | (simp; omega) | omega))) | exact Below.refl _ _ | assumption))⟩
  by_cases t3 : 20 < l.length
  · have HE : Hid (peopleE l = (0, 8)) := by unfold peopleE; rw [if_neg t0, if_pos t3]; rfl
    have t1 : ((l.length : Int) == 0) = false := by simpa using t0
    have t3' : (20 : Int) < (l.length : Int) := by omega
    have T0 := Lib.hid t0; clear t0
    go_enter Tryz.func77, Tryz.ntmps77
    go_wp2
    go_ret2
    exact ⟨by rw [HE.out]; rfl, (by repeat (first | (with_reducible exact Below.refl _ _) | (with_reducible assumption) | ((with_reducible refine Below.setCell ?_ ?_ _); rotate_left; · (first | exact Nat.le_refl _ | (simp; done) | (simp; omega) | omega)) | ((with_reducible refine Below.alloc ?_ ?_ _); rotate_left; · (first | exact Nat.le_refl _ | (simp; done) | (simp; omega) | omega)) | (with_reducible apply Below.drew) | (with_reducible apply below_drewN') | (refine Below.trans ?_ (Below.mono (by assumption) (by first | exact Nat.le_refl _ | (simp; done) | (simp; omega) | omega))) | exact Below.refl _ _ | assumption))⟩
  · have HE : Hid (peopleE l = firstE (peE l) l.length) := by unfold peopleE; rw [if_neg t0, if_neg t3]; rfl
    have t1 : ((l.length : Int) == 0) = false := by simpa using t0
    have t3' : (l.length : Int) ≤ 20 := by omega
    have t4 : decide ((20 : Int) < (l.length : Int)) = false := by simp; omega
    have T0 := Lib.hid t0; clear t0 t3
    go_enter Tryz.func77, Tryz.ntmps77
    go_wp2
    go_loopw [16] (fun i wr => ∃ k : Nat, k ≤ l.length ∧ i = .int .i64 k ∧ Hid (FineTo (peE l) k) ∧ Below w.heap.size w wr) (fun i _ => l.length - (intOf i).toNat)
    case atStart => exact ⟨0, Nat.zero_le _, rfl, Lib.hid (FineTo.zero _), Below.refl _ _⟩
    case round =>
      obtain ⟨k, hk, rfl, HI, hBB⟩ := hrel
      by_cases hlt : k < l.length
      · obtain ⟨g, o, hA, hg, c0, c1⟩ := (hR.below hBB hB).at2 peF_len hlt rfl
        subst hA
        have hsz : l[k].nm.size ≤ 1000000000000 := h1 _ (List.getElem_mem hlt)
        have hkc : k ≤ c := by omega
        have hkc1 : (k : Int) ≤ (c : Int) := by omega
        have hkc0 : (0 : Int) ≤ (k : Int) := by omega
        have HS := Lib.hid (peE_at hlt)
        have HBAD : Hid (peE l k ≠ 0 → peopleE l = ((k : Int), peE l k)) := Lib.hid (fun he => HE.out.trans (firstE_bad HI.out hlt he))
        have HNX : Hid (peE l k = 0 → FineTo (peE l) (k + 1)) := Lib.hid (fun he => HI.out.step he)
        have hRk := (hR.below hBB hB).takeF peF_len hk
        have hlk : Hid ((l.take k).length = k) := Lib.hid (by simp; omega)
        obtain ⟨T, hT⟩ : ∃ T, (l.take k).any (fun q => sameB q.nm l[k].nm) = T := ⟨_, rfl⟩
        rw [hT] at HS
        have HT := Lib.hid hT; clear hT HI
        obtain ⟨m, hm⟩ : ∃ m, l[k] = m := ⟨_, rfl⟩
        rw [hm] at HS hsz c0 c1 HT
        clear hm
        have b1 := Blk.new wr 104 #[.string m.nm, .int .i64 m.role]
        have hBw : Below w.heap.size w (wr.alloc (.cells #[.string m.nm, .int .i64 m.role] 104)) := Below.alloc hBB (Below.size hBB) _
        cases hq1 : nameB m.nm
        · have HX : Hid (peopleE l = ((k : Int), 4)) := by rw [hq1] at HS; have := HBAD.out (by rw [HS.out]; simp); rw [HS.out] at this; exact Lib.hid this
          have HN : Hid (∀ w : World, Calls Tryz.prog 100 #[.string m.nm] w fun e w' => e = .returned (.bool false) ∧ w = w') := Lib.hid fun w => by have := oIsName_any m.nm w hsz; rwa [hq1] at this
          have Q1 := Lib.hid hq1; clear hq1 HS HBAD HNX
          go_wp2_with (go_at_call 100; refine (HN.out _).mono ?_; rintro e w1 ⟨rfl, rfl⟩)
          go_ret2
          exact ⟨by rw [HX.out]; rfl, hBw⟩
        · have HN : Hid (∀ w : World, Calls Tryz.prog 100 #[.string m.nm] w fun e w' => e = .returned (.bool true) ∧ w = w') := Lib.hid fun w => by have := oIsName_any m.nm w hsz; rwa [hq1] at this
          cases hq2 : wi m.role 1 3
          · have HX : Hid (peopleE l = ((k : Int), 15)) := by rw [hq1, hq2] at HS; have := HBAD.out (by rw [HS.out]; simp); rw [HS.out] at this; exact Lib.hid this
            have HW : Hid (∀ w : World, Calls Tryz.prog 79 #[.int .i64 m.role, .int .i64 1, .int .i64 3] w fun e w' => e = .returned (.bool false) ∧ w = w') := Lib.hid fun w => by have := oWithin_any m.role 1 3 w; rwa [hq2] at this
            have Q1 := Lib.hid hq1; have Q2 := Lib.hid hq2; clear hq1 hq2 HS HBAD HNX
            go_wp2_with (first | (go_at_call 100; refine (HN.out _).mono ?_; rintro e w1 ⟨rfl, rfl⟩) | (go_at_call 79; refine (HW.out _).mono ?_; rintro e w1 ⟨rfl, rfl⟩))
            go_ret2
            exact ⟨by rw [HX.out]; rfl, hBw⟩
          · have HW : Hid (∀ w : World, Calls Tryz.prog 79 #[.int .i64 m.role, .int .i64 1, .int .i64 3] w fun e w' => e = .returned (.bool true) ∧ w = w') := Lib.hid fun w => by have := oWithin_any m.role 1 3 w; rwa [hq2] at this
            have HZ : Hid (decide (0 ≤ idxV (fun q : Pe => sameB q.nm m.nm) (l.take k)) = T) := Lib.hid (by rw [idxV_any]; exact HT.out)
            obtain ⟨r, hr⟩ : ∃ r, idxV (fun q : Pe => sameB q.nm m.nm) (l.take k) = r := ⟨_, rfl⟩
            rw [hr] at HZ
            have HP : Hid (∀ W : World, Row W B 2 (some ⟨g, o, none⟩) k (rowsC peF (l.take k)) → B ≤ W.heap.size → Calls Tryz.prog 46 #[.slice (some ⟨g, o, none⟩) k c, .string m.nm] W fun e w' => e = .returned (.int .i64 r) ∧ Below W.heap.size W w') := Lib.hid fun W hRW hBW => by
              have := person_any (l.take k) (some ⟨g, o, none⟩) c m.nm B W (by simp; omega) (by rw [hlk.out]; exact hRW) hBW
              rwa [hlk.out, hr] at this
            have HR := Lib.hid hr; clear hr
            have Q1 := Lib.hid hq1; have Q2 := Lib.hid hq2
            rw [hq1, hq2] at HS
            clear hq1 hq2
            have hRa := hRk.alloc (show B ≤ wr.heap.size from Nat.le_trans hB (Below.size hBB)) (.cells #[.string m.nm, .int .i64 m.role] 104)
            have hBa : B ≤ wr.heap.size := Nat.le_trans hB (Below.size hBB)
            have HRa := Lib.hid hRa; clear hRa hRk
            go_wp2_with (first | (go_at_call 100; refine (HN.out _).mono ?_; rintro e w1 ⟨rfl, rfl⟩) | (go_at_call 79; refine (HW.out _).mono ?_; rintro e w1 ⟨rfl, rfl⟩) | fail)
            refine wp_region_w (Gr _) (by kernel_rfl) (Below.refl _ _).drew ?_
            refine wpW_det (t' := ?ct0R1) 0 (by rfl) (by kernel_rfl) (NQ_free _) (by kernel_rfl) ?cw0R1 ?ch0R1 ?ca0R1 (Eq.refl _) ?cH0R1
            case cw0R1 => (go_simp; done)
            case ch0R1 =>
              intro ds w' hS K hK
              have hc := (bcell hS).1
              have hf := (bcell hS).2
              have hz := hS.size
              try simp at hz
              go_simp
              try go_bits
              first
                | exact hK _ hS (Gr.refl _)
                | (refine (HP.out _ (HRa.out.below hS (by simp; omega)) (by omega)).mono ?_; rintro e w1 ⟨rfl, hB1⟩; exact hK _ (Below.trans hS (Below.mono hB1 (by first | exact Nat.le_refl _ | (simp; done) | (simp; omega) | omega))) hB1)
                | exact hK _ (by repeat (first | (with_reducible exact Below.refl _ _) | (with_reducible assumption) | ((with_reducible refine Below.setCell ?_ ?_ _); rotate_left; · (first | exact Nat.le_refl _ | (simp; done) | (simp; omega) | omega)) | ((with_reducible refine Below.alloc ?_ ?_ _); rotate_left; · (first | exact Nat.le_refl _ | (simp; done) | (simp; omega) | omega)) | (with_reducible apply Below.drew) | (with_reducible apply below_drewN') | (refine Below.trans ?_ (Below.mono (by assumption) (by first | exact Nat.le_refl _ | (simp; done) | (simp; omega) | omega))) | exact Below.refl _ _ | assumption)) (by repeat (first | (with_reducible exact Below.refl _ _) | (with_reducible assumption) | ((with_reducible refine Below.setCell ?_ ?_ _); rotate_left; · (first | exact Nat.le_refl _ | (simp; done) | (simp; omega) | omega)) | ((with_reducible refine Below.alloc ?_ ?_ _); rotate_left; · (first | exact Nat.le_refl _ | (simp; done) | (simp; omega) | omega)) | (with_reducible apply Below.drew) | (with_reducible apply below_drewN') | (refine Below.trans ?_ (Below.mono (by assumption) (by first | exact Nat.le_refl _ | (simp; done) | (simp; omega) | omega))) | exact Below.refl _ _ | assumption))
            case ca0R1 => (first | (simp [Act.put]; done) | (simp [Act.put, *]; done))
            try dsimp only
            refine wpW_det (t' := ?ct1R1) 1 (by rfl) (by kernel_rfl) (NQ_free _) (by kernel_rfl) ?cw1R1 ?ch1R1 ?ca1R1 (Eq.refl _) ?cH1R1
            case cw1R1 => (go_simp; done)
            case ch1R1 =>
              intro ds w' hS K hK
              have hc := (bcell hS).1
              have hf := (bcell hS).2
              have hz := hS.size
              try simp at hz
              go_simp
              try go_bits
              first
                | exact hK _ hS (Gr.refl _)
                | (refine (HP.out _ (HRa.out.below hS (by simp; omega)) (by omega)).mono ?_; rintro e w1 ⟨rfl, hB1⟩; exact hK _ (Below.trans hS (Below.mono hB1 (by first | exact Nat.le_refl _ | (simp; done) | (simp; omega) | omega))) hB1)
                | exact hK _ (by repeat (first | (with_reducible exact Below.refl _ _) | (with_reducible assumption) | ((with_reducible refine Below.setCell ?_ ?_ _); rotate_left; · (first | exact Nat.le_refl _ | (simp; done) | (simp; omega) | omega)) | ((with_reducible refine Below.alloc ?_ ?_ _); rotate_left; · (first | exact Nat.le_refl _ | (simp; done) | (simp; omega) | omega)) | (with_reducible apply Below.drew) | (with_reducible apply below_drewN') | (refine Below.trans ?_ (Below.mono (by assumption) (by first | exact Nat.le_refl _ | (simp; done) | (simp; omega) | omega))) | exact Below.refl _ _ | assumption)) (by repeat (first | (with_reducible exact Below.refl _ _) | (with_reducible assumption) | ((with_reducible refine Below.setCell ?_ ?_ _); rotate_left; · (first | exact Nat.le_refl _ | (simp; done) | (simp; omega) | omega)) | ((with_reducible refine Below.alloc ?_ ?_ _); rotate_left; · (first | exact Nat.le_refl _ | (simp; done) | (simp; omega) | omega)) | (with_reducible apply Below.drew) | (with_reducible apply below_drewN') | (refine Below.trans ?_ (Below.mono (by assumption) (by first | exact Nat.le_refl _ | (simp; done) | (simp; omega) | omega))) | exact Below.refl _ _ | assumption))
            case ca1R1 => (first | (simp [Act.put]; done) | (simp [Act.put, *]; done))
            try dsimp only
            refine wpW_det (t' := ?ct2R1) 2 (by rfl) (by kernel_rfl) (NQ_free _) (by kernel_rfl) ?cw2R1 ?ch2R1 ?ca2R1 (Eq.refl _) ?cH2R1
            case cw2R1 => (go_simp; done)
            case ch2R1 =>
              intro ds w' hS K hK
              have hc := (bcell hS).1
              have hf := (bcell hS).2
              have hz := hS.size
              try simp at hz
              go_simp
              try go_bits
              first
                | exact hK _ hS (Gr.refl _)
                | (refine (HP.out _ (HRa.out.below hS (by simp; omega)) (by omega)).mono ?_; rintro e w1 ⟨rfl, hB1⟩; exact hK _ (Below.trans hS (Below.mono hB1 (by first | exact Nat.le_refl _ | (simp; done) | (simp; omega) | omega))) hB1)
                | exact hK _ (by repeat (first | (with_reducible exact Below.refl _ _) | (with_reducible assumption) | ((with_reducible refine Below.setCell ?_ ?_ _); rotate_left; · (first | exact Nat.le_refl _ | (simp; done) | (simp; omega) | omega)) | ((with_reducible refine Below.alloc ?_ ?_ _); rotate_left; · (first | exact Nat.le_refl _ | (simp; done) | (simp; omega) | omega)) | (with_reducible apply Below.drew) | (with_reducible apply below_drewN') | (refine Below.trans ?_ (Below.mono (by assumption) (by first | exact Nat.le_refl _ | (simp; done) | (simp; omega) | omega))) | exact Below.refl _ _ | assumption)) (by repeat (first | (with_reducible exact Below.refl _ _) | (with_reducible assumption) | ((with_reducible refine Below.setCell ?_ ?_ _); rotate_left; · (first | exact Nat.le_refl _ | (simp; done) | (simp; omega) | omega)) | ((with_reducible refine Below.alloc ?_ ?_ _); rotate_left; · (first | exact Nat.le_refl _ | (simp; done) | (simp; omega) | omega)) | (with_reducible apply Below.drew) | (with_reducible apply below_drewN') | (refine Below.trans ?_ (Below.mono (by assumption) (by first | exact Nat.le_refl _ | (simp; done) | (simp; omega) | omega))) | exact Below.refl _ _ | assumption))
            case ca2R1 => (first | (simp [Act.put]; done) | (simp [Act.put, *]; done))
            try dsimp only
            refine wpW_det (t' := ?ct3R1) 3 (by rfl) (by kernel_rfl) (NQ_free _) (by kernel_rfl) ?cw3R1 ?ch3R1 ?ca3R1 (Eq.refl _) ?cH3R1
            case cw3R1 => (go_simp; done)
            case ch3R1 =>
              intro ds w' hS K hK
              have hc := (bcell hS).1
              have hf := (bcell hS).2
              have hz := hS.size
              try simp at hz
              go_simp
              try go_bits
              first
                | exact hK _ hS (Gr.refl _)
                | (refine (HP.out _ (HRa.out.below hS (by simp; omega)) (by omega)).mono ?_; rintro e w1 ⟨rfl, hB1⟩; exact hK _ (Below.trans hS (Below.mono hB1 (by first | exact Nat.le_refl _ | (simp; done) | (simp; omega) | omega))) hB1)
                | exact hK _ (by repeat (first | (with_reducible exact Below.refl _ _) | (with_reducible assumption) | ((with_reducible refine Below.setCell ?_ ?_ _); rotate_left; · (first | exact Nat.le_refl _ | (simp; done) | (simp; omega) | omega)) | ((with_reducible refine Below.alloc ?_ ?_ _); rotate_left; · (first | exact Nat.le_refl _ | (simp; done) | (simp; omega) | omega)) | (with_reducible apply Below.drew) | (with_reducible apply below_drewN') | (refine Below.trans ?_ (Below.mono (by assumption) (by first | exact Nat.le_refl _ | (simp; done) | (simp; omega) | omega))) | exact Below.refl _ _ | assumption)) (by repeat (first | (with_reducible exact Below.refl _ _) | (with_reducible assumption) | ((with_reducible refine Below.setCell ?_ ?_ _); rotate_left; · (first | exact Nat.le_refl _ | (simp; done) | (simp; omega) | omega)) | ((with_reducible refine Below.alloc ?_ ?_ _); rotate_left; · (first | exact Nat.le_refl _ | (simp; done) | (simp; omega) | omega)) | (with_reducible apply Below.drew) | (with_reducible apply below_drewN') | (refine Below.trans ?_ (Below.mono (by assumption) (by first | exact Nat.le_refl _ | (simp; done) | (simp; omega) | omega))) | exact Below.refl _ _ | assumption))
            case ca3R1 => (first | (simp [Act.put]; done) | (simp [Act.put, *]; done))
            try dsimp only
            refine wpW_det (t' := ?ct4R1) 4 (by rfl) (by kernel_rfl) (NQ_free _) (by kernel_rfl) ?cw4R1 ?ch4R1 ?ca4R1 (Eq.refl _) ?cH4R1
            case cw4R1 => (go_simp; done)
            case ch4R1 =>
              intro ds w' hS K hK
              have hc := (bcell hS).1
              have hf := (bcell hS).2
              have hz := hS.size
              try simp at hz
              go_simp
              try go_bits
              first
                | exact hK _ hS (Gr.refl _)
                | (refine (HP.out _ (HRa.out.below hS (by simp; omega)) (by omega)).mono ?_; rintro e w1 ⟨rfl, hB1⟩; exact hK _ (Below.trans hS (Below.mono hB1 (by first | exact Nat.le_refl _ | (simp; done) | (simp; omega) | omega))) hB1)
                | exact hK _ (by repeat (first | (with_reducible exact Below.refl _ _) | (with_reducible assumption) | ((with_reducible refine Below.setCell ?_ ?_ _); rotate_left; · (first | exact Nat.le_refl _ | (simp; done) | (simp; omega) | omega)) | ((with_reducible refine Below.alloc ?_ ?_ _); rotate_left; · (first | exact Nat.le_refl _ | (simp; done) | (simp; omega) | omega)) | (with_reducible apply Below.drew) | (with_reducible apply below_drewN') | (refine Below.trans ?_ (Below.mono (by assumption) (by first | exact Nat.le_refl _ | (simp; done) | (simp; omega) | omega))) | exact Below.refl _ _ | assumption)) (by repeat (first | (with_reducible exact Below.refl _ _) | (with_reducible assumption) | ((with_reducible refine Below.setCell ?_ ?_ _); rotate_left; · (first | exact Nat.le_refl _ | (simp; done) | (simp; omega) | omega)) | ((with_reducible refine Below.alloc ?_ ?_ _); rotate_left; · (first | exact Nat.le_refl _ | (simp; done) | (simp; omega) | omega)) | (with_reducible apply Below.drew) | (with_reducible apply below_drewN') | (refine Below.trans ?_ (Below.mono (by assumption) (by first | exact Nat.le_refl _ | (simp; done) | (simp; omega) | omega))) | exact Below.refl _ _ | assumption))
            case ca4R1 => (first | (simp [Act.put]; done) | (simp [Act.put, *]; done))
            try dsimp only
            refine wpW_det (t' := ?ct5R1) 5 (by rfl) (by kernel_rfl) (NQ_free _) (by kernel_rfl) ?cw5R1 ?ch5R1 ?ca5R1 (Eq.refl _) ?cH5R1
            case cw5R1 => (go_simp; done)
            case ch5R1 =>
              intro ds w' hS K hK
              have hc := (bcell hS).1
              have hf := (bcell hS).2
              have hz := hS.size
              try simp at hz
              go_simp
              try go_bits
              first
                | exact hK _ hS (Gr.refl _)
                | (refine (HP.out _ (HRa.out.below hS (by simp; omega)) (by omega)).mono ?_; rintro e w1 ⟨rfl, hB1⟩; exact hK _ (Below.trans hS (Below.mono hB1 (by first | exact Nat.le_refl _ | (simp; done) | (simp; omega) | omega))) hB1)
                | exact hK _ (by repeat (first | (with_reducible exact Below.refl _ _) | (with_reducible assumption) | ((with_reducible refine Below.setCell ?_ ?_ _); rotate_left; · (first | exact Nat.le_refl _ | (simp; done) | (simp; omega) | omega)) | ((with_reducible refine Below.alloc ?_ ?_ _); rotate_left; · (first | exact Nat.le_refl _ | (simp; done) | (simp; omega) | omega)) | (with_reducible apply Below.drew) | (with_reducible apply below_drewN') | (refine Below.trans ?_ (Below.mono (by assumption) (by first | exact Nat.le_refl _ | (simp; done) | (simp; omega) | omega))) | exact Below.refl _ _ | assumption)) (by repeat (first | (with_reducible exact Below.refl _ _) | (with_reducible assumption) | ((with_reducible refine Below.setCell ?_ ?_ _); rotate_left; · (first | exact Nat.le_refl _ | (simp; done) | (simp; omega) | omega)) | ((with_reducible refine Below.alloc ?_ ?_ _); rotate_left; · (first | exact Nat.le_refl _ | (simp; done) | (simp; omega) | omega)) | (with_reducible apply Below.drew) | (with_reducible apply below_drewN') | (refine Below.trans ?_ (Below.mono (by assumption) (by first | exact Nat.le_refl _ | (simp; done) | (simp; omega) | omega))) | exact Below.refl _ _ | assumption))
            case ca5R1 => (first | (simp [Act.put]; done) | (simp [Act.put, *]; done))
            try dsimp only
            refine wpW_det (t' := ?ct6R1) 6 (by rfl) (by kernel_rfl) (NQ_free _) (by kernel_rfl) ?cw6R1 ?ch6R1 ?ca6R1 (Eq.refl _) ?cH6R1
            case cw6R1 => (go_simp; done)
            case ch6R1 =>
              intro ds w' hS K hK
              have hc := (bcell hS).1
              have hf := (bcell hS).2
              have hz := hS.size
              try simp at hz
              go_simp
              try go_bits
              first
                | exact hK _ hS (Gr.refl _)
                | (refine (HP.out _ (HRa.out.below hS (by simp; omega)) (by omega)).mono ?_; rintro e w1 ⟨rfl, hB1⟩; exact hK _ (Below.trans hS (Below.mono hB1 (by first | exact Nat.le_refl _ | (simp; done) | (simp; omega) | omega))) hB1)
                | exact hK _ (by repeat (first | (with_reducible exact Below.refl _ _) | (with_reducible assumption) | ((with_reducible refine Below.setCell ?_ ?_ _); rotate_left; · (first | exact Nat.le_refl _ | (simp; done) | (simp; omega) | omega)) | ((with_reducible refine Below.alloc ?_ ?_ _); rotate_left; · (first | exact Nat.le_refl _ | (simp; done) | (simp; omega) | omega)) | (with_reducible apply Below.drew) | (with_reducible apply below_drewN') | (refine Below.trans ?_ (Below.mono (by assumption) (by first | exact Nat.le_refl _ | (simp; done) | (simp; omega) | omega))) | exact Below.refl _ _ | assumption)) (by repeat (first | (with_reducible exact Below.refl _ _) | (with_reducible assumption) | ((with_reducible refine Below.setCell ?_ ?_ _); rotate_left; · (first | exact Nat.le_refl _ | (simp; done) | (simp; omega) | omega)) | ((with_reducible refine Below.alloc ?_ ?_ _); rotate_left; · (first | exact Nat.le_refl _ | (simp; done) | (simp; omega) | omega)) | (with_reducible apply Below.drew) | (with_reducible apply below_drewN') | (refine Below.trans ?_ (Below.mono (by assumption) (by first | exact Nat.le_refl _ | (simp; done) | (simp; omega) | omega))) | exact Below.refl _ _ | assumption))
            case ca6R1 => (first | (simp [Act.put]; done) | (simp [Act.put, *]; done))
            try dsimp only
            refine wpW_det (t' := ?ct7R1) 7 (by rfl) (by kernel_rfl) (NQ_free _) (by kernel_rfl) ?cw7R1 ?ch7R1 ?ca7R1 (Eq.refl _) ?cH7R1
            case cw7R1 => (go_simp; done)
            case ch7R1 =>
              intro ds w' hS K hK
              have hc := (bcell hS).1
              have hf := (bcell hS).2
              have hz := hS.size
              try simp at hz
              go_simp
              try go_bits
              first
                | exact hK _ hS (Gr.refl _)
                | (refine (HP.out _ (HRa.out.below hS (by simp; omega)) (by omega)).mono ?_; rintro e w1 ⟨rfl, hB1⟩; exact hK _ (Below.trans hS (Below.mono hB1 (by first | exact Nat.le_refl _ | (simp; done) | (simp; omega) | omega))) hB1)
                | exact hK _ (by repeat (first | (with_reducible exact Below.refl _ _) | (with_reducible assumption) | ((with_reducible refine Below.setCell ?_ ?_ _); rotate_left; · (first | exact Nat.le_refl _ | (simp; done) | (simp; omega) | omega)) | ((with_reducible refine Below.alloc ?_ ?_ _); rotate_left; · (first | exact Nat.le_refl _ | (simp; done) | (simp; omega) | omega)) | (with_reducible apply Below.drew) | (with_reducible apply below_drewN') | (refine Below.trans ?_ (Below.mono (by assumption) (by first | exact Nat.le_refl _ | (simp; done) | (simp; omega) | omega))) | exact Below.refl _ _ | assumption)) (by repeat (first | (with_reducible exact Below.refl _ _) | (with_reducible assumption) | ((with_reducible refine Below.setCell ?_ ?_ _); rotate_left; · (first | exact Nat.le_refl _ | (simp; done) | (simp; omega) | omega)) | ((with_reducible refine Below.alloc ?_ ?_ _); rotate_left; · (first | exact Nat.le_refl _ | (simp; done) | (simp; omega) | omega)) | (with_reducible apply Below.drew) | (with_reducible apply below_drewN') | (refine Below.trans ?_ (Below.mono (by assumption) (by first | exact Nat.le_refl _ | (simp; done) | (simp; omega) | omega))) | exact Below.refl _ _ | assumption))
            case ca7R1 => (first | (simp [Act.put]; done) | (simp [Act.put, *]; done))
            try dsimp only
            refine wpW_end (by kernel_rfl) ?_
            intro we hg hS
            unfold NQ
            dsimp only
            have hBE := hBw.trans (hS.mono hBw.size)
            cases T
            · have hr1 : r < 0 := by have := HZ.out; simpa using this
              have hr2 : ¬ 0 ≤ r := by omega
              have HX : Hid (FineTo (peE l) (k + 1)) := Lib.hid (HNX.out (by rw [HS.out]; simp))
              clear HS HNX HBAD
              go_wp2
              refine ⟨⟨k + 1, by omega, by go_num, HX, hBE⟩, by simp [intOf]; omega⟩
            · have hr1 : 0 ≤ r := by have := HZ.out; simpa using this
              have HX : Hid (peopleE l = ((k : Int), 5)) := by have := HBAD.out (by rw [HS.out]; simp); rw [HS.out] at this; exact Lib.hid this
              clear HS HNX HBAD
              go_wp2
              go_ret2
              exact ⟨by rw [HX.out]; rfl, hBE⟩
      · obtain rfl : k = l.length := by omega
        have HX : Hid (peopleE l = (0, 0)) := Lib.hid (HE.out.trans (firstE_end HI.out))
        go_wp2
        go_ret2
        exact ⟨by rw [HX.out]; rfl, hBB⟩
end Go.Proofs.YtmdbpkomanhpoaaGreatDoor
