/- Contracts: a new book; until when a step is valid. Contracts: copies of events and of what became of steps; whether a step is valid; the plain law of a calibration. -/
import Derived.Test.YtmdbpkomanhpoaaGreatDoorZqOtB
namespace Go.Proofs.YtmdbpkomanhpoaaGreatDoor
open Go.RowKit

theorem BkOk.gr {l : List St} {A : Option Addr} {c B bk base g cap : Nat} {L : List La} {w w' : World} (h : BkOk l A c B bk base g cap L w) (hb : Below w.heap.size w w') : BkOk l A c B bk base g cap L w' :=
  ⟨h.st.below hb h.st.base, h.blk.gr hb, own_below h.own hb, h.len, h.ne, h.lo, h.le, h.wid, h.warm⟩
def laZ : La := ⟨false, false, 0, 0⟩
theorem made_la {n : Nat} (h : n ≤ 10) : (madeCells #[.bool false, .bool false, .int .i64 0, .int .i64 0] (n * 4)).toList = rowsC laF (List.replicate n laZ) := by
  unfold madeCells
  rw [Array.toList_map, Array.toList_range]
  obtain rfl | rfl | rfl | rfl | rfl | rfl | rfl | rfl | rfl | rfl | rfl : n = 0 ∨ n = 1 ∨ n = 2 ∨ n = 3 ∨ n = 4 ∨ n = 5 ∨ n = 6 ∨ n = 7 ∨ n = 8 ∨ n = 9 ∨ n = 10 := by omega
  all_goals rfl
theorem infoLa : (Tryz.prog.info? 246).map (fun i => (i.zero, i.size, i.bytes)) = some (some (.agg #[.bool false, .bool false, .int .i64 0, .int .i64 0]), 4, 24) := by kernel_rfl

set_option maxRecDepth 100000 in
set_option maxHeartbeats 1000000 in
theorem newBook_any (l : List St) (A : Option Addr) (c B : Nat) (w : World) (h0 : 0 < l.length) (h : l.length ≤ 10) (hs : StOk l A c B w) :
    Calls Tryz.prog 165 #[.slice A l.length c] w fun e w' => ∃ bk, e = .returned (.pointer (some ⟨bk, 0, none⟩)) ∧ BkOk l A c B bk w.heap.size w.heap.size l.length (List.replicate l.length laZ) w' ∧ Below w.heap.size w w' := by
  obtain ⟨i0, hi, hz0, hz1, hz2⟩ := info_parts infoLa
  have HS := Lib.hid hs; have hB := hs.base; clear hs
  go_enter Tryz.func165, Tryz.ntmps165
  go_wp2_with (at_make; refine wpList_make_full _ rfl _ _ 243 rfl w.heap.size 246 i0 (.agg #[.bool false, .bool false, .int .i64 0, .int .i64 0]) 4 Tryz.underlying243 hi hz0 hz1 .i64 .i64 _ _ l.length rfl rfl rfl rfl (by rw [hz2]; omega) (by unfold maxLen; omega) (Nat.le_refl _) ?_)
  intro w2 own2 hgrow
  rw [made_la h] at own2
  have hB2 : Below w.heap.size w w2 := (Below.refl _ _).grown hgrow (Nat.le_refl _) (fun q e => by cases e)
  have hg := own2.lt w.heap.size rfl
  have HO := Lib.hid own2; clear own2 hgrow
  go_wp2
  go_ret
  refine ⟨_, rfl, ⟨HS.out.below (hB2.alloc hB2.size _) hB, Blk.new _ _ _, HO.out.alloc _, by simp, by omega, by omega, hB, h, fun a ha => ?_⟩, hB2.alloc hB2.size _⟩
  obtain rfl := List.eq_of_mem_replicate ha
  exact ⟨by decide, by decide⟩

/-- One more need. -/
def unF (u : Int × Bool) (acc : Int × Bool) : Int × Bool := (min acc.1 u.1, acc.2 && u.2)
/-- Until when a step is valid. -/
def untilF (l : List St) (L : List La) : Nat → Nat → Int × Bool
  | 0, _ => (0, false)
  | f + 1, i => match l[i]?, L[i]? with
    | some s, some a => s.needs.foldl (fun acc n => unF (untilF l L f n.toNat) acc) (a.mi + s.lasts, a.dn && a.kp)
    | _, _ => (0, false)
theorem untilF_at {l : List St} {L : List La} {f i : Nat} (h : i < l.length) (h' : i < L.length) : untilF l L (f + 1) i = l[i].needs.foldl (fun acc n => unF (untilF l L f n.toNat) acc) (L[i].mi + l[i].lasts, L[i].dn && L[i].kp) := by
  rw [untilF, List.getElem?_eq_getElem h, List.getElem?_eq_getElem h']
theorem fold_snoc {α β : Type} (f : β → α → β) (b : β) (l : List α) {k : Nat} (h : k < l.length) : (l.take (k + 1)).foldl f b = f ((l.take k).foldl f b) l[k] := by
  rw [List.take_succ_eq_append_getElem h, List.foldl_append]; rfl
/-- What is so of steps that are right. -/
def StRight (l : List St) : Prop := ∀ i (h : i < l.length), (1 ≤ l[i].lasts ∧ l[i].lasts ≤ 1000000) ∧ (0 ≤ l[i].warm ∧ l[i].warm ≤ 2000) ∧ ∀ n ∈ l[i].needs, 0 ≤ n ∧ n ≤ (i : Int) - 1

set_option maxRecDepth 100000 in
set_option maxHeartbeats 4000000 in
theorem until_any (l : List St) (A : Option Addr) (c B bk base g cap : Nat) (L : List La) (hr : Hid (StRight l)) (hmi : Hid (∀ a ∈ L, 0 ≤ a.mi ∧ a.mi ≤ 100000000)) : ∀ (f i : Nat) (w : World), i < f → i < l.length → BkOk l A c B bk base g cap L w →
    Calls Tryz.prog 169 #[.pointer (some ⟨bk, 0, none⟩), .int .i64 i] w fun e w' => e = .returned (.tuple #[.int .i64 (untilF l L f i).1, .bool (untilF l L f i).2]) ∧ Below w.heap.size w w'
  | 0, i, w, h, _, _ => absurd h (by omega)
  | f + 1, i, w, hif, hil, hbk => by
    have IH := Lib.hid (until_any l A c B bk base g cap L hr hmi f)
    have HBK := Lib.hid hbk
    have bb := hbk.blk; have lbb := bb.lt
    have hLl := hbk.len
    have hiL : i < L.length := by omega
    have hgl := hbk.own.lt g rfl
    obtain ⟨l0, l1, l2, l3, _, _, _⟩ := own_at4 hbk.own hiL hLl
    obtain ⟨gs, os, hA, hgs, s0, s1, s2, s3⟩ := hbk.st.row.at4 stF_len hil rfl
    have HNR := Lib.hid (hbk.st.needs _ (List.getElem_mem hil)).2
    have hnl := (hbk.st.needs _ (List.getElem_mem hil)).1
    have hBw := hbk.st.base
    have hgsw : gs < w.heap.size := by omega
    have hwid := hbk.wid
    have HU := Lib.hid (untilF_at (f := f) hil hiL)
    have hla := (hr.out i hil).1
    have HNE := Lib.hid (hr.out i hil).2.2
    have hmi1 := hmi.out _ (List.getElem_mem hiL)
    have HLl := Lib.hid hLl
    clear hbk hLl
    obtain ⟨a, ha⟩ : ∃ a, L[i] = a := ⟨_, rfl⟩
    rw [ha] at l0 l1 l2 l3 HU hmi1
    clear ha
    obtain ⟨s, hs⟩ : ∃ s, l[i] = s := ⟨_, rfl⟩
    rw [hs] at s0 s1 s2 s3 HNR hnl HU hla HNE
    clear hs
    obtain ⟨snm, slasts, swarm, sA, sc, needs⟩ := s
    dsimp only at s0 s1 s2 s3 HNR hnl HU hla HNE
    obtain ⟨adn, akp, ami, awa⟩ := a
    dsimp only at l0 l1 l2 l3 HU hmi1
    have e0 := bb.cell 0; have e1 := bb.cell 1
    have hwr : IntKind.i64.wrap (ami + slasts) = ami + slasts := IntWalk.i64_in _ (by omega)
    have bs := Blk.new w 246 #[.bool adn, .bool akp, .int .i64 ami, .int .i64 awa]
    have hBs : Below w.heap.size w (w.alloc (.cells #[.bool adn, .bool akp, .int .i64 ami, .int .i64 awa] 246)) := (Below.refl _ _).alloc (Nat.le_refl _) _
    have HA := Lib.hid hA
    have hAA := HA.out
    clear hA
    subst hAA
    cases adn
    · have hu0 : Hid (∃ u, untilF l L (f + 1) i = u) := Lib.hid ⟨_, rfl⟩
      clear hu0
      go_enter Tryz.func169, Tryz.ntmps169
      go_wp2
      go_quiet (fail)
      clear hwr
      go_wp2
      go_loopw [7, 8, 46] (fun u v j wr => ∃ (k : Nat) (m : Int) (b : Bool), k ≤ needs.length ∧ j = .int .i64 k ∧ u = .int .i64 m ∧ v = .bool b ∧ Hid ((m, b) = (needs.take k).foldl (fun acc n => unF (untilF l L f n.toNat) acc) (ami + slasts, false)) ∧ Below w.heap.size w wr) (fun _ _ j _ => needs.length - (intOf j).toNat)
      case atStart => exact ⟨0, _, _, Nat.zero_le _, rfl, rfl, rfl, Lib.hid rfl, by first | exact hBs | exact below_drewN' hBs _⟩
      case round =>
        obtain ⟨k, m, b, hk, rfl, rfl, rfl, HF, hBr⟩ := hrel
        by_cases hkl : k < needs.length
        · obtain ⟨gn, on, hAn, hgn, e2⟩ := intRow_at (HNR.out.below hBr (by omega)) hkl
          subst hAn
          obtain ⟨n1, n2⟩ := HNE.out _ (List.getElem_mem hkl)
          have HSN := Lib.hid (fold_snoc (fun acc n => unF (untilF l L f n.toNat) acc) (ami + slasts, false) needs hkl)
          obtain ⟨n, hn⟩ : ∃ n : Nat, needs[k] = (n : Int) := ⟨needs[k].toNat, by omega⟩
          rw [hn] at e2 n1 n2
          have HN := Lib.hid hn
          have hBK := HBK.out.gr hBr
          have hc := IH.out n wr (by omega) (by omega) hBK
          obtain ⟨u, hu⟩ : ∃ u, untilF l L f n = u := ⟨_, rfl⟩
          rw [hu] at hc
          have HX : Hid (unF u (m, b) = (needs.take (k + 1)).foldl (fun acc n => unF (untilF l L f n.toNat) acc) (ami + slasts, false)) := Lib.hid (by rw [HSN.out, ← HF.out, HN.out, Int.toNat_natCast, hu])
          have HC := Lib.hid hc
          clear hc hn hu HSN hBK
          obtain ⟨um, ub⟩ := u
          go_wp2_with fail
          refine HC.out.mono ?_
          rintro e w1 ⟨rfl, hB1⟩
          have hB2 := hBr.trans (hB1.mono (Below.size hBr))
          clear hB1
          cases b
          · go_wp2
            all_goals exact ⟨⟨k + 1, _, _, by omega, by go_num, rfl, rfl, Lib.hid (by rw [← HX.out]; unfold unF; simp; try omega), hB2⟩, by simp [intOf]; omega⟩
          · go_wp2
            all_goals exact ⟨⟨k + 1, _, _, by omega, by go_num, rfl, rfl, Lib.hid (by rw [← HX.out]; unfold unF; simp; try omega), hB2⟩, by simp [intOf]; omega⟩
        · obtain rfl : k = needs.length := by omega
          have HX : Hid ((m, b) = untilF l L (f + 1) i) := Lib.hid (by rw [HU.out, HF.out, List.take_length]; rfl)
          go_wp2
          go_ret2
          exact ⟨by rw [← HX.out]; rfl, hBr⟩
    · have hu0 : Hid (∃ u, untilF l L (f + 1) i = u) := Lib.hid ⟨_, rfl⟩
      clear hu0
      go_enter Tryz.func169, Tryz.ntmps169
      go_wp2
      go_quiet (fail)
      clear hwr
      go_wp2
      go_loopw [7, 8, 46] (fun u v j wr => ∃ (k : Nat) (m : Int) (b : Bool), k ≤ needs.length ∧ j = .int .i64 k ∧ u = .int .i64 m ∧ v = .bool b ∧ Hid ((m, b) = (needs.take k).foldl (fun acc n => unF (untilF l L f n.toNat) acc) (ami + slasts, akp)) ∧ Below w.heap.size w wr) (fun _ _ j _ => needs.length - (intOf j).toNat)
      case atStart => exact ⟨0, _, _, Nat.zero_le _, rfl, rfl, rfl, Lib.hid rfl, by first | exact hBs | exact below_drewN' hBs _⟩
      case round =>
        obtain ⟨k, m, b, hk, rfl, rfl, rfl, HF, hBr⟩ := hrel
        by_cases hkl : k < needs.length
        · obtain ⟨gn, on, hAn, hgn, e2⟩ := intRow_at (HNR.out.below hBr (by omega)) hkl
          subst hAn
          obtain ⟨n1, n2⟩ := HNE.out _ (List.getElem_mem hkl)
          have HSN := Lib.hid (fold_snoc (fun acc n => unF (untilF l L f n.toNat) acc) (ami + slasts, akp) needs hkl)
          obtain ⟨n, hn⟩ : ∃ n : Nat, needs[k] = (n : Int) := ⟨needs[k].toNat, by omega⟩
          rw [hn] at e2 n1 n2
          have HN := Lib.hid hn
          have hBK := HBK.out.gr hBr
          have hc := IH.out n wr (by omega) (by omega) hBK
          obtain ⟨u, hu⟩ : ∃ u, untilF l L f n = u := ⟨_, rfl⟩
          rw [hu] at hc
          have HX : Hid (unF u (m, b) = (needs.take (k + 1)).foldl (fun acc n => unF (untilF l L f n.toNat) acc) (ami + slasts, akp)) := Lib.hid (by rw [HSN.out, ← HF.out, HN.out, Int.toNat_natCast, hu])
          have HC := Lib.hid hc
          clear hc hn hu HSN hBK
          obtain ⟨um, ub⟩ := u
          go_wp2_with fail
          refine HC.out.mono ?_
          rintro e w1 ⟨rfl, hB1⟩
          have hB2 := hBr.trans (hB1.mono (Below.size hBr))
          clear hB1
          cases b
          · go_wp2
            all_goals exact ⟨⟨k + 1, _, _, by omega, by go_num, rfl, rfl, Lib.hid (by rw [← HX.out]; unfold unF; simp; try omega), hB2⟩, by simp [intOf]; omega⟩
          · go_wp2
            all_goals exact ⟨⟨k + 1, _, _, by omega, by go_num, rfl, rfl, Lib.hid (by rw [← HX.out]; unfold unF; simp; try omega), hB2⟩, by simp [intOf]; omega⟩
        · obtain rfl : k = needs.length := by omega
          have HX : Hid ((m, b) = untilF l L (f + 1) i) := Lib.hid (by rw [HU.out, HF.out, List.take_length]; rfl)
          go_wp2
          go_ret2
          exact ⟨by rw [← HX.out]; rfl, hBr⟩
end Go.Proofs.YtmdbpkomanhpoaaGreatDoor

namespace Go.Proofs.YtmdbpkomanhpoaaGreatDoor
open Go.RowKit

def evF (x : Ev) : List Value := [.int .i64 x.mi, .int .i64 x.st, .int .i64 x.wa]
theorem evF_len (x : Ev) : (evF x).length = 3 := rfl
theorem infoEv : (Tryz.prog.info? 166).map (fun i => (i.zero, i.size, i.bytes)) = some (some (.agg #[.int .i64 0, .int .i64 0, .int .i64 0]), 3, 24) := by kernel_rfl
theorem rowsEv_one (l : List Ev) : ∀ u ∈ rowsC evF l, u.oneCell' = true := by
  intro u hu
  simp only [rowsC, List.mem_flatMap] at hu
  obtain ⟨p, _, hp⟩ := hu
  simp [evF] at hp
  rcases hp with rfl | rfl | rfl <;> rfl
theorem rowsLa_one (l : List La) : ∀ u ∈ rowsC laF l, u.oneCell' = true := by
  intro u hu
  simp only [rowsC, List.mem_flatMap] at hu
  obtain ⟨p, _, hp⟩ := hu
  simp [laF] at hp
  rcases hp with rfl | rfl | rfl | rfl <;> rfl

set_option maxRecDepth 100000 in
set_option maxHeartbeats 1000000 in
theorem cloneLa_any (l : List La) (A : Option Addr) (c : Nat) (w : World) (hS : Src w 4 A l.length c (rowsC laF l)) (hl : l.length ≤ 1000000) :
    Calls Tryz.prog 167 #[.slice A l.length c] w fun e w' => ∃ v, e = .returned v ∧ w'.ownsRow w.heap.size 246 4 v l.length (rowsC laF l) ∧ Below w.heap.size w w' := by
  obtain ⟨i0, hi, hz0, hz1, hz2⟩ := info_parts infoLa
  cases A with
  | none =>
    have h0 : l.length = 0 := by
      rcases Nat.eq_zero_or_pos l.length with h | h
      · exact h
      · obtain ⟨_, _, hR⟩ := hS; obtain ⟨_, _, h, _⟩ := hR.2 h; cases h
    obtain rfl : c = 0 := hS.1 rfl
    obtain rfl : l = [] := List.eq_nil_of_length_eq_zero h0
    clear h0 hS hl
    have heq : ∀ W : World, (binOp .eql 243 (.slice none 0 0) (.slice none 0 0)).run Tryz.prog W = .ok (.bool true) W := fun W => Lib.run_eql_slice_nil W _ _ _ _ _ _ _ Tryz.underlying243
    go_enter Tryz.func167, Tryz.ntmps167
    go_wp2
    go_ret
    exact ⟨_, rfl, World.ownsRow_nil _ _ _ _, Below.refl _ _⟩
  | some a =>
    have own := own_empty w 246 4
    have hB3 : Below w.heap.size w (w.alloc (.cells #[] 246)) := (Below.refl _ _).alloc (Nat.le_refl _) _
    have hS2 : Src (w.alloc (.cells #[] 246)) 4 (some a) l.length c (rowsC laF l) := hS.alloc _
    have HS := Lib.hid hS2; clear hS hS2
    have heq : ∀ W : World, (binOp .eql 243 (.slice (some a) l.length c) (.slice none 0 0)).run Tryz.prog W = .ok (.bool false) W := fun W => Lib.run_eql_slice_nil W _ _ _ _ _ _ _ Tryz.underlying243
    go_enter Tryz.func167, Tryz.ntmps167
    go_wp2_with (at_builtin; refine wpList_append_row rfl _ _ 243 rfl w.heap.size 246 i0 (.agg #[.bool false, .bool false, .int .i64 0, .int .i64 0]) 4 24 Tryz.underlying243 hi hz0 hz1 hz2 rfl (by decide) _ _ _ rfl own (some a) l.length c (rowsC laF l) rfl HS.out (rowsLa_one _) (by unfold maxLen; omega) (by omega) (by simp) ?_)
    intro v3 w3 own3 hgrow _
    have hB4 : Below w.heap.size w w3 := below_own hB3 (by omega) own hgrow
    try simp only [Nat.zero_add, List.nil_append] at own3
    go_wp2
    go_ret
    exact ⟨_, rfl, own3, hB4⟩

set_option maxRecDepth 100000 in
set_option maxHeartbeats 1000000 in
theorem cloneEv_any (l : List Ev) (A : Option Addr) (c : Nat) (w : World) (hS : Src w 3 A l.length c (rowsC evF l)) (hl : l.length ≤ 1000000) :
    Calls Tryz.prog 92 #[.slice A l.length c] w fun e w' => ∃ v, e = .returned v ∧ w'.ownsRow w.heap.size 166 3 v l.length (rowsC evF l) ∧ Below w.heap.size w w' := by
  obtain ⟨i0, hi, hz0, hz1, hz2⟩ := info_parts infoEv
  cases A with
  | none =>
    have h0 : l.length = 0 := by
      rcases Nat.eq_zero_or_pos l.length with h | h
      · exact h
      · obtain ⟨_, _, hR⟩ := hS; obtain ⟨_, _, h, _⟩ := hR.2 h; cases h
    obtain rfl : c = 0 := hS.1 rfl
    obtain rfl : l = [] := List.eq_nil_of_length_eq_zero h0
    clear h0 hS hl
    have heq : ∀ W : World, (binOp .eql 40 (.slice none 0 0) (.slice none 0 0)).run Tryz.prog W = .ok (.bool true) W := fun W => Lib.run_eql_slice_nil W _ _ _ _ _ _ _ Tryz.underlying40
    go_enter Tryz.func92, Tryz.ntmps92
    go_wp2
    go_ret
    exact ⟨_, rfl, World.ownsRow_nil _ _ _ _, Below.refl _ _⟩
  | some a =>
    have own := own_empty w 166 3
    have hB3 : Below w.heap.size w (w.alloc (.cells #[] 166)) := (Below.refl _ _).alloc (Nat.le_refl _) _
    have hS2 : Src (w.alloc (.cells #[] 166)) 3 (some a) l.length c (rowsC evF l) := hS.alloc _
    have HS := Lib.hid hS2; clear hS hS2
    have heq : ∀ W : World, (binOp .eql 40 (.slice (some a) l.length c) (.slice none 0 0)).run Tryz.prog W = .ok (.bool false) W := fun W => Lib.run_eql_slice_nil W _ _ _ _ _ _ _ Tryz.underlying40
    go_enter Tryz.func92, Tryz.ntmps92
    go_wp2_with (at_builtin; refine wpList_append_row rfl _ _ 40 rfl w.heap.size 166 i0 (.agg #[.int .i64 0, .int .i64 0, .int .i64 0]) 3 24 Tryz.underlying40 hi hz0 hz1 hz2 rfl (by decide) _ _ _ rfl own (some a) l.length c (rowsC evF l) rfl HS.out (rowsEv_one _) (by unfold maxLen; omega) (by omega) (by simp) ?_)
    intro v3 w3 own3 hgrow _
    have hB4 : Below w.heap.size w w3 := below_own hB3 (by omega) own hgrow
    try simp only [Nat.zero_add, List.nil_append] at own3
    go_wp2
    go_ret
    exact ⟨_, rfl, own3, hB4⟩

/-- Whether a step is valid at a minute. -/
def validV (l : List St) (L : List La) (i : Nat) (m : Int) : Bool := (untilF l L 11 i).2 && decide (m ≤ (untilF l L 11 i).1)
set_option maxRecDepth 100000 in
set_option maxHeartbeats 1000000 in
theorem valid_any (l : List St) (A : Option Addr) (c B bk base g cap : Nat) (L : List La) (hr : Hid (StRight l)) (hmi : Hid (∀ a ∈ L, 0 ≤ a.mi ∧ a.mi ≤ 100000000)) (i : Nat) (m : Int) (w : World) (hil : i < l.length) (hb : BkOk l A c B bk base g cap L w) :
    Calls Tryz.prog 134 #[.pointer (some ⟨bk, 0, none⟩), .int .i64 i, .int .i64 m] w fun e w' => e = .returned (.bool (validV l L i m)) ∧ Below w.heap.size w w' := by
  have HC := Lib.hid (until_any l A c B bk base g cap L hr hmi 11 i w (by have := hb.wid; omega) hil hb)
  unfold validV
  clear hb hr hmi hil
  obtain ⟨u, hu⟩ : ∃ u, untilF l L 11 i = u := ⟨_, rfl⟩
  rw [hu] at HC ⊢
  clear hu
  obtain ⟨um, ub⟩ := u
  go_enter Tryz.func134, Tryz.ntmps134
  go_wp2_with fail
  refine HC.out.mono ?_
  rintro e w1 ⟨rfl, hB1⟩
  cases ub
  · go_wp2
    go_ret
    exact ⟨rfl, hB1⟩
  · go_wp2
    all_goals
      go_ret
      exact ⟨by simp, hB1⟩

theorem firstE_zero {e : Nat → Int} {n : Nat} (h : (firstE e n).2 = 0) : FineTo e n := by
  intro j hj
  refine Classical.byContradiction fun hne => ?_
  have : ∃ k, k < n ∧ FineTo e k ∧ e k ≠ 0 := by
    refine Classical.byContradiction fun hno => ?_
    have hF : ∀ k, k ≤ n → FineTo e k := fun k => by
      induction k with
      | zero => exact fun _ => FineTo.zero e
      | succ k ih => exact fun hk => (ih (by omega)).step (Classical.byContradiction fun he => hno ⟨k, by omega, ih (by omega), he⟩)
    exact hne (hF n (Nat.le_refl _) j hj)
  obtain ⟨k, hk, hF, he⟩ := this
  rw [firstE_bad hF hk he] at h
  exact he h
theorem wi_true {n lo hi : Int} (h : wi n lo hi = true) : lo ≤ n ∧ n ≤ hi := by unfold wi at h; simpa using h
theorem stepsE_right {l : List St} (h : (stepsE l).2 = 0) : 0 < l.length ∧ l.length ≤ 10 ∧ StRight l := by
  unfold stepsE at h
  split at h
  · cases h
  · split at h
    · cases h
    · refine ⟨by omega, by omega, fun i hi => ?_⟩
      have h1 := firstE_zero h i hi
      rw [stepE_at hi] at h1
      split at h1
      · cases h1
      split at h1
      · cases h1
      split at h1
      · cases h1
      split at h1
      · cases h1
      rename_i _ _ q3 q4
      refine ⟨wi_true (by simpa using q3), wi_true (by simpa using q4), fun n hn => ?_⟩
      obtain ⟨k, hk, rfl⟩ := List.getElem_of_mem hn
      have h2 := firstE_zero h1 k hk
      rcases k with _ | k
      · rw [needE_zero hk] at h2
        split at h2
        · cases h2
        · rename_i q; exact wi_true (by simpa using q)
      · rw [needE_succ hk] at h2
        split at h2
        · cases h2
        · rename_i q; exact wi_true (by simpa using q)
/-- Whether a minute lies ahead of one before. -/
def prevB (p : Option Int) (m : Int) : Bool := match p with | none => false | some q => decide (m < q)
/-- The error of an event behind a book. -/
def evE (l : List St) (L : List La) (p : Option Int) (x : Ev) : Int :=
  if wi x.mi 0 100000000 = false then 2 else if wi x.st (-1) ((l.length : Int) - 1) = false then 6 else if wi x.wa (-2000) 2000 = false then 2 else if prevB p x.mi = true then 9 else
    if x.st = -1 then 0 else match l[x.st.toNat]? with
      | none => 0
      | some s => if (s.needs.all fun n => validV l (addL l ⟨x.mi, -1, x.wa⟩ L) n.toNat x.mi) = true then 0 else 20
/-- The book behind events. -/
def bookL (l : List St) (evs : List Ev) : List La := evs.foldl (fun L x => addL l x L) (List.replicate l.length laZ)
theorem bookL_snoc (l : List St) (evs : List Ev) {k : Nat} (h : k < evs.length) : bookL l (evs.take (k + 1)) = addL l evs[k] (bookL l (evs.take k)) := fold_snoc _ _ _ h
/-- The error of an event among events. -/
def evsQ (l : List St) (evs : List Ev) (k : Nat) : Int := match evs[k]? with
  | none => 0
  | some x => evE l (bookL l (evs.take k)) (if k = 0 then none else (evs[k - 1]?).map (·.mi)) x
theorem evsQ_at {l : List St} {evs : List Ev} {k : Nat} (h : k < evs.length) : evsQ l evs k = evE l (bookL l (evs.take k)) (if k = 0 then none else (evs[k - 1]?).map (·.mi)) evs[k] := by unfold evsQ; rw [List.getElem?_eq_getElem h]
/-- The error of steps and events, with a number. -/
def followE (l : List St) (evs : List Ev) : Int × Int := if (stepsE l).2 = 0 then (if 60 < evs.length then (0, 8) else firstE (evsQ l evs) evs.length) else (0, (stepsE l).2)
theorem addL_mem {l : List St} {x : Ev} {L : List La} {a : La} (h : a ∈ addL l x L) : ∃ i b, b ∈ L ∧ (a = b ∨ (∃ s : St, a = addQ s x i b)) := by
  obtain ⟨i, hi, rfl⟩ := List.getElem_of_mem h
  rw [addL_length] at hi
  refine ⟨i, L[i], List.getElem_mem hi, ?_⟩
  have e : (addL l x L)[i]? = some (match l[i]? with | some s => addQ s x i L[i] | none => L[i]) := by unfold addL; rw [List.getElem?_mapIdx, List.getElem?_eq_getElem hi]; rfl
  rw [List.getElem?_eq_getElem (by rw [addL_length]; exact hi)] at e
  rw [Option.some.inj e]
  cases l[i]? with
  | none => exact .inl rfl
  | some s => exact .inr ⟨s, rfl⟩
theorem addL_mi {l : List St} {x : Ev} {L : List La} (hx : x.st = -1 ∨ (0 ≤ x.mi ∧ x.mi ≤ 100000000)) (h : ∀ a ∈ L, 0 ≤ a.mi ∧ a.mi ≤ 100000000) : ∀ a ∈ addL l x L, 0 ≤ a.mi ∧ a.mi ≤ 100000000 := by
  intro a ha
  obtain ⟨i, b, hb, rfl | ⟨s, rfl⟩⟩ := addL_mem ha
  · exact h _ hb
  · unfold addQ
    split
    · rcases hx with hx | hx
      · rename_i e; rw [hx] at e; omega
      · exact hx
    · split
      · exact h b hb
      · split
        · exact h b hb
        · exact h b hb
end Go.Proofs.YtmdbpkomanhpoaaGreatDoor
