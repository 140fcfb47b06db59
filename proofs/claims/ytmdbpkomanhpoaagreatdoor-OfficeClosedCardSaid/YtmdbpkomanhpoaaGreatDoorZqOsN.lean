/- Contracts: the rows of a code in one slice (slices.Concat); which codes are right. Contracts: the rows of a code, by the program and by the reference; which codes are right. -/
import Derived.Laws.AppendOwnNone
import Derived.Test.YtmdbpkomanhpoaaGreatDoorZqOsK
import Derived.Test.YtmdbpkomanhpoaaGreatDoorZqOsR
namespace Go.Proofs.YtmdbpkomanhpoaaGreatDoor
open Go.RowKit

/-- How many elements the first k of two lists have, and which. -/
def tot (l l' : List Rw) (k : Nat) : Nat := if k = 0 then 0 else if k = 1 then l.length else l.length + l'.length
def lst (l l' : List Rw) (k : Nat) : List Rw := if k = 0 then [] else if k = 1 then l else l ++ l'

set_option maxRecDepth 100000 in
set_option maxHeartbeats 1000000 in
theorem concat_any (l l' : List Rw) (A : Option Addr) (c : Nat) (A' : Option Addr) (c' gs B : Nat) (w : World) (q0 : w.cell? ⟨gs, 0, none⟩ = some (.slice A l.length c)) (q1 : w.cell? ⟨gs, 1, none⟩ = some (.slice A' l'.length c'))
    (hR : Row w B 13 A l.length (rowsC rwF l)) (hR' : Row w B 13 A' l'.length (rowsC rwF l')) (hB : B ≤ w.heap.size) (hn0 : A = none → c = 0) (hn1 : A' = none → c' = 0) (hl : l.length ≤ 1000) (hl' : l'.length ≤ 1000) :
    Calls Tryz.prog 154 #[.slice (some ⟨gs, 0, none⟩) 2 2] w fun e w' => ∃ v, e = .returned v ∧ w'.ownsRow w.heap.size 106 13 v (l.length + l'.length) (rowsC rwF (l ++ l')) ∧ Below w.heap.size w w' := by
  obtain ⟨i0, hi, hz0, hz1, hz2⟩ := info_parts infoRw
  have hgs := World.block_lt_of_cell? _ _ q0
  have HRA := Lib.hid hR; have HRB := Lib.hid hR'
  have hn0 := Lib.hid hn0; have hn1 := Lib.hid hn1
  clear hR hR'
  go_enter Tryz.func154, Tryz.ntmps154
  go_wp2
  go_loop [3, 11] (fun s i => ∃ k : Nat, k ≤ 2 ∧ i = .int .i64 k ∧ s = .int .i64 (tot l l' k : Nat)) (fun _ i => 2 - (intOf i).toNat)
  case atStart => exact ⟨0, by omega, rfl, rfl⟩
  case round =>
    obtain ⟨k, hk, rfl, rfl⟩ := hrel
    obtain rfl | rfl | rfl : k = 0 ∨ k = 1 ∨ k = 2 := by omega
    · have e0 : tot l l' 0 = 0 := rfl
      have e1 : tot l l' 1 = l.length := rfl
      rw [e0]
      have E1 := Lib.hid e1; clear e0 e1
      go_wp2
      all_goals first
        | (exact ⟨⟨1, by omega, rfl, by rw [E1.out]⟩, by simp [intOf]⟩)
        | (exfalso; omega)
    · have e1 : tot l l' 1 = l.length := rfl
      have e2 : tot l l' 2 = l.length + l'.length := rfl
      rw [e1]
      have E2 := Lib.hid e2; clear e1 e2
      go_wp2
      all_goals first
        | (exact ⟨⟨2, by omega, rfl, by rw [E2.out, Int.natCast_add]⟩, by simp [intOf]⟩)
        | (exfalso; omega)
    · have e2 : tot l l' 2 = l.length + l'.length := rfl
      rw [e2]
      clear e2
      have HG := Lib.hid (growRows_any (l.length + l'.length) (by omega) w)
      go_wp2_with fail
      refine HG.out.mono ?_
      rintro e w1 ⟨v0, rfl, own, hB1⟩
      have OW := Lib.hid own; clear own HG
      go_wp2
      go_loopw [6, 27] (fun v i wr => ∃ k : Nat, k ≤ 2 ∧ i = .int .i64 k ∧ Hid (wr.ownsRow w.heap.size 106 13 v (tot l l' k) (rowsC rwF (lst l l' k))) ∧ Below w.heap.size w wr) (fun _ i _ => 2 - (intOf i).toNat)
      case atStart => exact ⟨0, by omega, rfl, OW, hB1⟩
      case round =>
        clear OW
        obtain ⟨k, hk, rfl, HOW, hBB⟩ := hrel
        obtain rfl | rfl | rfl : k = 0 ∨ k = 1 ∨ k = 2 := by omega
        · have HR := Lib.hid (HRA.out.below hBB hB)
          have hq := (hBB.cell (p := ⟨gs, 0, none⟩) hgs).trans q0
          have hnn := hn0
          have hll : l.length ≤ 1000 := by omega
          cases A with
          | none =>
            have h0 : l.length = 0 := by
              rcases Nat.eq_zero_or_pos l.length with h | h
              · exact h
              · obtain ⟨_, _, h, _⟩ := HR.out.2 h; cases h
            obtain rfl : c = 0 := hnn.out rfl
            obtain rfl : l = [] := List.eq_nil_of_length_eq_zero h0
            have HO : Hid (wr.ownsRow w.heap.size 106 13 u6 (tot [] l' 1) (rowsC rwF (lst [] l' 1))) := Lib.hid (by have := HOW.out; simpa [tot, lst] using this)
            have ow := HOW.out
            clear HOW h0 hnn
            go_wp2_with (at_builtin; refine wpList_append_own_none rfl _ _ 23 rfl w.heap.size 106 i0 13 Tryz.underlying23 hi _ _ _ rfl ow rfl ?_)
            exact ⟨⟨_, _, _, ⟨1, by omega, rfl, HO⟩, rfl, rfl, rfl⟩, by simp [intOf]⟩
          | some a =>
            have ow := HOW.out
            have hs := Below.size hBB
            have ht : tot l l' 0 ≤ 2000 := by simp [tot]; try omega
            clear hnn
            go_wp2_with (at_builtin; refine wpList_append_own _ rfl _ _ 23 rfl w.heap.size 106 i0 (.agg #[.int .i64 0, .int .i64 0, .int .i64 0, .int .i64 0, .int .i64 0, .int .i64 0, .int .i64 0, .int .i64 0, .int .i64 0, .int .i64 0, .int .i64 0, .int .i64 0, .int .i64 0]) 13 104 Tryz.underlying23 hi hz0 hz1 hz2 rfl (by decide) _ _ _ rfl ow a l.length c (rowsC rwF l) rfl (rowsC_length rwF_len _) ?c1 ?c2 ?c3 ?c4 ?c5 ?_)
            try
              case c1 => exact HR.out.news
            try
              case c2 => exact rowsC_one _
            try
              case c3 => unfold maxLen; omega
            try
              case c4 => omega
            try
              case c5 => omega
            intro v3 w3 own3 hgrow _
            have hB3 : Below w.heap.size w w3 := below_own hBB (by omega) ow hgrow
            have HO : Hid (w3.ownsRow w.heap.size 106 13 v3 (tot l l' 1) (rowsC rwF (lst l l' 1))) := Lib.hid (by have := own3; rw [← rowsC_append] at this; simpa [tot, lst] using this)
            go_wp2
            refine ⟨⟨1, by omega, by go_num, HO, hB3⟩, by simp [intOf]⟩
        · have HR := Lib.hid (HRB.out.below hBB hB)
          have hq := (hBB.cell (p := ⟨gs, 1, none⟩) hgs).trans q1
          have hnn := hn1
          have hll : l'.length ≤ 1000 := by omega
          cases A' with
          | none =>
            have h0 : l'.length = 0 := by
              rcases Nat.eq_zero_or_pos l'.length with h | h
              · exact h
              · obtain ⟨_, _, h, _⟩ := HR.out.2 h; cases h
            obtain rfl : c' = 0 := hnn.out rfl
            obtain rfl : l' = [] := List.eq_nil_of_length_eq_zero h0
            have HO : Hid (wr.ownsRow w.heap.size 106 13 u6 (tot l [] 2) (rowsC rwF (lst l [] 2))) := Lib.hid (by have := HOW.out; simpa [tot, lst] using this)
            have ow := HOW.out
            clear HOW h0 hnn
            go_wp2_with (at_builtin; refine wpList_append_own_none rfl _ _ 23 rfl w.heap.size 106 i0 13 Tryz.underlying23 hi _ _ _ rfl ow rfl ?_)
            exact ⟨⟨_, _, _, ⟨2, by omega, rfl, HO⟩, rfl, rfl, rfl⟩, by simp [intOf]⟩
          | some a =>
            have ow := HOW.out
            have hs := Below.size hBB
            have ht : tot l l' 1 ≤ 2000 := by simp [tot]; try omega
            clear hnn
            go_wp2_with (at_builtin; refine wpList_append_own _ rfl _ _ 23 rfl w.heap.size 106 i0 (.agg #[.int .i64 0, .int .i64 0, .int .i64 0, .int .i64 0, .int .i64 0, .int .i64 0, .int .i64 0, .int .i64 0, .int .i64 0, .int .i64 0, .int .i64 0, .int .i64 0, .int .i64 0]) 13 104 Tryz.underlying23 hi hz0 hz1 hz2 rfl (by decide) _ _ _ rfl ow a l'.length c' (rowsC rwF l') rfl (rowsC_length rwF_len _) ?c1 ?c2 ?c3 ?c4 ?c5 ?_)
            try
              case c1 => exact HR.out.news
            try
              case c2 => exact rowsC_one _
            try
              case c3 => unfold maxLen; omega
            try
              case c4 => omega
            try
              case c5 => omega
            intro v3 w3 own3 hgrow _
            have hB3 : Below w.heap.size w w3 := below_own hBB (by omega) ow hgrow
            have HO : Hid (w3.ownsRow w.heap.size 106 13 v3 (tot l l' 2) (rowsC rwF (lst l l' 2))) := Lib.hid (by have := own3; rw [← rowsC_append] at this; simpa [tot, lst] using this)
            go_wp2
            refine ⟨⟨2, by omega, by go_num, HO, hB3⟩, by simp [intOf]⟩
        · have ow := HOW.out
          clear HOW
          go_wp2
          go_ret
          exact ⟨_, rfl, by simpa [tot, lst] using ow, hBB⟩
end Go.Proofs.YtmdbpkomanhpoaaGreatDoor

namespace Go.Proofs.YtmdbpkomanhpoaaGreatDoor
open Go.RowKit

/-- A code. -/
structure Cd where
  nm : ByteArray
  ex : List Rw
  rows : List Rw
/-- A code in memory. -/
structure CdOk (k : Cd) (A : Option Addr) (c : Nat) (A' : Option Addr) (c' B : Nat) (w : World) : Prop where
  nm : k.nm.size ≤ 1000000000000
  len : k.ex.length ≤ 1000
  len' : k.rows.length ≤ 1000
  row : Row w B 13 A k.ex.length (rowsC rwF k.ex)
  row' : Row w B 13 A' k.rows.length (rowsC rwF k.rows)
  nul : A = .none → c = 0
  nul' : A' = .none → c' = 0
  base : B ≤ w.heap.size
theorem CdOk.below {k : Cd} {A : Option Addr} {c : Nat} {A' : Option Addr} {c' B C : Nat} {w w' : World} (h : CdOk k A c A' c' B w) (hb : Below C w w') (hC : B ≤ C) : CdOk k A c A' c' B w' :=
  ⟨h.nm, h.len, h.len', h.row.below hb hC, h.row'.below hb hC, h.nul, h.nul', Nat.le_trans h.base hb.size⟩
def rwsE (l : List Rw) (j : Nat) : Int := match l[j]? with
  | none => 0
  | some r => rowE r
theorem rwsE_at {l : List Rw} {j : Nat} (h : j < l.length) : rwsE l j = rowE l[j] := by unfold rwsE; rw [List.getElem?_eq_getElem h]
/-- The error of a code, with a number. -/
def codeE (k : Cd) : Int × Int := if nameB k.nm = false then (0, 4) else if 10 < k.ex.length then (0, 8) else if 10 < k.rows.length then (0, 8) else firstE (rwsE (k.ex ++ k.rows)) (k.ex ++ k.rows).length

set_option maxRecDepth 100000 in
set_option maxHeartbeats 1000000 in
theorem all_any (k : Cd) (A : Option Addr) (c : Nat) (A' : Option Addr) (c' B : Nat) (w : World) (hk : CdOk k A c A' c' B w) :
    Calls Tryz.prog 116 #[.agg #[.string k.nm, .slice A k.ex.length c, .slice A' k.rows.length c']] w fun e w' => ∃ v, e = .returned v ∧ w'.ownsRow w.heap.size 106 13 v (k.ex.length + k.rows.length) (rowsC rwF (k.ex ++ k.rows)) ∧ Below w.heap.size w w' := by
  obtain ⟨h1, hl, hl', hR, hR', hn, hn', hB⟩ := hk
  have hB0 : Below w.heap.size w (w.alloc (.cells #[.string k.nm, .slice A k.ex.length c, .slice A' k.rows.length c'] 25)) := (by repeat (first | (with_reducible exact Below.refl _ _) | (with_reducible assumption) | ((with_reducible refine Below.setCell ?_ ?_ _); rotate_left; · (first | exact Nat.le_refl _ | (simp; done) | (simp; omega) | omega)) | ((with_reducible refine Below.alloc ?_ ?_ _); rotate_left; · (first | exact Nat.le_refl _ | (simp; done) | (simp; omega) | omega)) | (with_reducible apply Below.drew) | (with_reducible apply below_drewN') | (refine Below.trans ?_ (Below.mono (by assumption) (by first | exact Nat.le_refl _ | (simp; done) | (simp; omega) | omega))) | exact Below.refl _ _ | assumption))
  have bn := Blk.new' (w.alloc (.cells #[.string k.nm, .slice A k.ex.length c, .slice A' k.rows.length c'] 25)) 23 #[.slice A k.ex.length c, .slice A' k.rows.length c'] (g := w.heap.size + 1) (by simp)
  have hB1 := hB0.alloc (Below.size hB0) (.cells #[.slice A k.ex.length c, .slice A' k.rows.length c'] 23 (0, 0))
  have HC := Lib.hid (concat_any k.ex k.rows A c A' c' (w.heap.size + 1) B _ (bn.cell 0) (bn.cell 1) (hR.below hB1 hB) (hR'.below hB1 hB) (by have := Below.size hB1; omega) hn hn' hl hl')
  have HS := Lib.hid hB1
  clear hR hR' hn hn' bn hB1
  go_enter Tryz.func116, Tryz.ntmps116
  go_wp2_with fail
  refine HC.out.mono ?_
  rintro e w2 ⟨v, rfl, own, hB2⟩
  have own' := own.mono (base' := w.heap.size) (by simp; omega)
  have hBB := HS.out.trans (hB2.mono (by simp; omega))
  clear hB2 own
  go_wp2
  go_ret
  exact ⟨_, rfl, own', hBB⟩

set_option maxRecDepth 100000 in
set_option maxHeartbeats 1000000 in
theorem cdCheckCode_any (k : Cd) (A : Option Addr) (c : Nat) (A' : Option Addr) (c' B : Nat) (w : World) (hk : CdOk k A c A' c' B w) (hQ : Quant w) :
    Calls Tryz.prog 78 #[.agg #[.string k.nm, .slice A k.ex.length c, .slice A' k.rows.length c']] w fun e w' => e = .returned (.tuple #[.int .i64 (codeE k).1, .int .i64 (codeE k).2]) ∧ Below w.heap.size w w' := by
  obtain ⟨h1, hl, hl', hR, hR', hn, hn', hB⟩ := hk
  have b0 := Blk.new w 25 #[.string k.nm, .slice A k.ex.length c, .slice A' k.rows.length c']
  have hB0 : Below w.heap.size w (w.alloc (.cells #[.string k.nm, .slice A k.ex.length c, .slice A' k.rows.length c'] 25)) := (by repeat (first | (with_reducible exact Below.refl _ _) | (with_reducible assumption) | ((with_reducible refine Below.setCell ?_ ?_ _); rotate_left; · (first | exact Nat.le_refl _ | (simp; done) | (simp; omega) | omega)) | ((with_reducible refine Below.alloc ?_ ?_ _); rotate_left; · (first | exact Nat.le_refl _ | (simp; done) | (simp; omega) | omega)) | (with_reducible apply Below.drew) | (with_reducible apply below_drewN') | (refine Below.trans ?_ (Below.mono (by assumption) (by first | exact Nat.le_refl _ | (simp; done) | (simp; omega) | omega))) | exact Below.refl _ _ | assumption))
  have HQ := Lib.hid hQ; clear hQ
  have HR := Lib.hid hR; have HR' := Lib.hid hR'; have HN := Lib.hid hn; have HN' := Lib.hid hn'
  clear hR hR' hn hn'
  cases hq : nameB k.nm
  · have HE : Hid (codeE k = (0, 4)) := Lib.hid (by unfold codeE; rw [if_pos hq])
    have HI : Hid (∀ w : World, Calls Tryz.prog 115 #[.string k.nm] w fun e w' => e = .returned (.bool false) ∧ Below w.heap.size w w') := Lib.hid fun w => by have := cdIsName_any k.nm w h1; rw [hq] at this; exact this.mono fun e w' h => ⟨h.1, by first | exact h.2 | exact h.2 ▸ Below.refl _ _⟩
    have HQ1 := Lib.hid hq; clear hq
    go_enter Tryz.func78, Tryz.ntmps78
    go_wp2_with fail
    refine (HI.out _).mono ?_
    rintro e w1 ⟨rfl, hB1⟩
    have hBB := hB0.trans (hB1.mono (by simp))
    go_wp2
    go_ret2
    exact ⟨by rw [HE.out]; rfl, hBB⟩
  have HI : Hid (∀ w : World, Calls Tryz.prog 115 #[.string k.nm] w fun e w' => e = .returned (.bool true) ∧ Below w.heap.size w w') := Lib.hid fun w => by have := cdIsName_any k.nm w h1; rw [hq] at this; exact this.mono fun e w' h => ⟨h.1, by first | exact h.2 | exact h.2 ▸ Below.refl _ _⟩
  by_cases t1 : 10 < k.ex.length
  · have HE : Hid (codeE k = (0, 8)) := Lib.hid (by unfold codeE; rw [if_neg (by simp [hq]), if_pos t1])
    have t1' : (10 : Int) < (k.ex.length : Int) := by omega
    have HQ1 := Lib.hid hq; clear hq t1
    go_enter Tryz.func78, Tryz.ntmps78
    go_wp2_with fail
    refine (HI.out _).mono ?_
    rintro e w1 ⟨rfl, hB1⟩
    have b1 := b0.below hB1 b0.lt
    have hc0 := b1.cell 0; have hc1 := b1.cell 1; have hc2 := b1.cell 2
    have hBB := hB0.trans (hB1.mono (by simp))
    clear hB1
    go_wp2
    go_ret2
    exact ⟨by rw [HE.out]; rfl, hBB⟩
  by_cases t2 : 10 < k.rows.length
  · have HE : Hid (codeE k = (0, 8)) := Lib.hid (by unfold codeE; rw [if_neg (by simp [hq]), if_neg t1, if_pos t2])
    have t1' : (k.ex.length : Int) ≤ 10 := by omega
    have t2' : (10 : Int) < (k.rows.length : Int) := by omega
    have HQ1 := Lib.hid hq; clear hq t1 t2
    go_enter Tryz.func78, Tryz.ntmps78
    go_wp2_with fail
    refine (HI.out _).mono ?_
    rintro e w1 ⟨rfl, hB1⟩
    have b1 := b0.below hB1 b0.lt
    have hc0 := b1.cell 0; have hc1 := b1.cell 1; have hc2 := b1.cell 2
    have hBB := hB0.trans (hB1.mono (by simp))
    clear hB1
    go_wp2
    go_ret2
    exact ⟨by rw [HE.out]; rfl, hBB⟩
  have HE : Hid (codeE k = firstE (rwsE (k.ex ++ k.rows)) (k.ex ++ k.rows).length) := Lib.hid (by unfold codeE; rw [if_neg (by simp [hq]), if_neg t1, if_neg t2])
  have t1' : (k.ex.length : Int) ≤ 10 := by omega
  have t2' : (k.rows.length : Int) ≤ 10 := by omega
  have HQ1 := Lib.hid hq; clear hq t1 t2
  go_enter Tryz.func78, Tryz.ntmps78
  go_wp2_with fail
  refine (HI.out _).mono ?_
  rintro e w1 ⟨rfl, hB1⟩
  have b1 := b0.below hB1 b0.lt
  have hc0 := b1.cell 0; have hc1 := b1.cell 1; have hc2 := b1.cell 2
  have hBB := hB0.trans (hB1.mono (by simp))
  clear hB1
  go_wp2_with fail
  refine (all_any k A c A' c' B w1 ⟨h1, hl, hl', HR.out.below hBB hB, HR'.out.below hBB hB, HN.out, HN'.out, Nat.le_trans hB hBB.size⟩).mono ?_
  rintro e w2 ⟨v, rfl, own, hB2⟩
  replace hBB := hBB.trans (hB2.mono hBB.size)
  have hlen : (k.ex ++ k.rows).length = k.ex.length + k.rows.length := List.length_append
  have hlt2 : (k.ex ++ k.rows).length ≤ 20 := by omega
  rw [← hlen] at own
  clear hlen hB2 hc0 hc1 hc2 b0 b1
  obtain ⟨A2, c2, rfl, k2, k3, hR2⟩ := Row.ownd own
  have HR2 := Lib.hid hR2; clear hR2 own
  generalize k.ex ++ k.rows = L at *
  go_wp2
  go_loopw [26] (fun i wr => ∃ j : Nat, j ≤ L.length ∧ i = .int .i64 j ∧ Hid (FineTo (rwsE L) j) ∧ Below w2.heap.size w2 wr) (fun i _ => L.length - (intOf i).toNat)
  case atStart => exact ⟨0, Nat.zero_le _, rfl, Lib.hid (FineTo.zero _), Below.refl _ _⟩
  case round =>
    obtain ⟨j, hj, rfl, HI2, hBr⟩ := hrel
    have hBF : Below w.heap.size w wr := hBB.trans (hBr.mono hBB.size)
    by_cases hlt : j < L.length
    · obtain ⟨g, o, hA, hg, c0, c1, c2, c3, c4, c5, c6, c7, c8, c9, c10, c11, c12⟩ := rwCells (HR2.out.below hBr (Nat.le_refl _)) hlt
      subst hA
      have HRE := Lib.hid (rwsE_at hlt)
      have HBAD : Hid (rwsE L j ≠ 0 → codeE k = ((j : Int), rwsE L j)) := Lib.hid (fun he => HE.out.trans (firstE_bad HI2.out hlt he))
      have HNX : Hid (rwsE L j = 0 → FineTo (rwsE L) (j + 1)) := Lib.hid (fun he => HI2.out.step he)
      generalize L[j] = r at *
      have bz := Blk.new wr 106 (rwC r)
      have hBz : Below w2.heap.size w2 (wr.alloc (.cells (rwC r) 106)) := Below.alloc hBr (Below.size hBr) _
      go_wp2_with fail
      refine (cdRowErr_any r _ (HQ.out.below (hBB.trans (hBz.mono hBB.size)) (Nat.le_refl _))).mono ?_
      rintro e w3 ⟨rfl, hB3⟩
      have hBw : Below w2.heap.size w2 w3 := hBz.trans (hB3.mono (by have := Below.size hBr; simp; omega))
      clear hB3 bz c0 c1 c2 c3 c4 c5 c6 c7 c8 c9 c10 c11 c12
      by_cases h0 : rowE r = 0
      · have h0' : (rowE r != 0) = false := by simpa using h0
        have HX := Lib.hid (HNX.out (HRE.out.trans h0))
        have H0 := Lib.hid h0; clear h0 HRE HBAD HNX
        go_wp2
        refine ⟨⟨j + 1, by omega, by go_num, HX, hBw⟩, by simp [intOf]; omega⟩
      · have h0' : (rowE r != 0) = true := by simpa using h0
        have HX : Hid (codeE k = ((j : Int), rowE r)) := Lib.hid (by have := HBAD.out (by rw [HRE.out]; exact h0); rw [HRE.out] at this; exact this)
        have H0 := Lib.hid h0; clear h0 HRE HBAD HNX
        go_wp2
        go_ret2
        exact ⟨by rw [HX.out]; rfl, hBB.trans (hBw.mono hBB.size)⟩
    · obtain rfl : j = L.length := by omega
      have HX : Hid (codeE k = (0, 0)) := Lib.hid (HE.out.trans (firstE_end HI2.out))
      go_wp2
      go_ret2
      exact ⟨by rw [HX.out]; rfl, hBF⟩

end Go.Proofs.YtmdbpkomanhpoaaGreatDoor
