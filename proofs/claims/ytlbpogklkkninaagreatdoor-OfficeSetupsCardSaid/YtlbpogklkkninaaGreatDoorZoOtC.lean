/- Contracts: a new book; until when a step is valid. -/
import Derived.Test.YtlbpogklkkninaaGreatDoorZoOtB
namespace Go.Proofs.YtlbpogklkkninaaGreatDoor
open Go.RowKit

theorem BkOk.gr {l : List St} {A : Option Addr} {c B bk base g cap : Nat} {L : List La} {w w' : World} (h : BkOk l A c B bk base g cap L w) (hb : Below w.heap.size w w') : BkOk l A c B bk base g cap L w' :=
  ⟨h.st.below hb h.st.base, h.blk.gr hb, own_below h.own hb, h.len, h.ne, h.lo, h.le, h.wid, h.warm⟩
def laZ : La := ⟨false, false, 0, 0⟩
theorem made_la {n : Nat} (h : n ≤ 10) : (madeCells #[.bool false, .bool false, .int .i64 0, .int .i64 0] (n * 4)).toList = rowsC laF (List.replicate n laZ) := by
  unfold madeCells
  rw [Array.toList_map, Array.toList_range]
  obtain rfl | rfl | rfl | rfl | rfl | rfl | rfl | rfl | rfl | rfl | rfl : n = 0 ∨ n = 1 ∨ n = 2 ∨ n = 3 ∨ n = 4 ∨ n = 5 ∨ n = 6 ∨ n = 7 ∨ n = 8 ∨ n = 9 ∨ n = 10 := by omega
  all_goals rfl
theorem infoLa : (Tryz.prog.info? 250).map (fun i => (i.zero, i.size, i.bytes)) = some (some (.agg #[.bool false, .bool false, .int .i64 0, .int .i64 0]), 4, 24) := by kernel_rfl

set_option maxRecDepth 100000 in
set_option maxHeartbeats 1000000 in
theorem newBook_any (l : List St) (A : Option Addr) (c B : Nat) (w : World) (h0 : 0 < l.length) (h : l.length ≤ 10) (hs : StOk l A c B w) :
    Calls Tryz.prog 176 #[.slice A l.length c] w fun e w' => ∃ bk, e = .returned (.pointer (some ⟨bk, 0, none⟩)) ∧ BkOk l A c B bk w.heap.size w.heap.size l.length (List.replicate l.length laZ) w' ∧ Below w.heap.size w w' := by
  obtain ⟨i0, hi, hz0, hz1, hz2⟩ := info_parts infoLa
  have HS := Lib.hid hs; have hB := hs.base; clear hs
  go_enter Tryz.func176, Tryz.ntmps176
  go_wp2_with (at_make; refine wpList_make_full _ rfl _ _ 247 rfl w.heap.size 250 i0 (.agg #[.bool false, .bool false, .int .i64 0, .int .i64 0]) 4 Tryz.underlying247 hi hz0 hz1 .i64 .i64 _ _ l.length rfl rfl rfl rfl (by rw [hz2]; omega) (by unfold maxLen; omega) (Nat.le_refl _) ?_)
  intro w2 own2 hgrow
  rw [made_la h] at own2
  have hB2 : Below w.heap.size w w2 := (Below.refl _ _).grown hgrow (Nat.le_refl _) (fun q e => by cases e)
  have hg := own2.lt w.heap.size rfl
  have HO := Lib.hid own2; clear own2 hgrow
  go_wp2
  go_ret
  refine ⟨_, rfl, ⟨HS.out.below (hB2.alloc hB2.size _) hB, Blk.new _ _ _, HO.out.alloc _, by simp, by omega, by omega, hB, h, fun a ha => ?_⟩, hB2.alloc hB2.size _⟩
  obtain rfl := List.eq_of_mem_replicate ha
  exact ⟨by decide, by decide⟩

/-- One more need. -/
def unF (u : Int × Bool) (acc : Int × Bool) : Int × Bool := (min acc.1 u.1, acc.2 && u.2)
/-- Until when a step is valid. -/
def untilF (l : List St) (L : List La) : Nat → Nat → Int × Bool
  | 0, _ => (0, false)
  | f + 1, i => match l[i]?, L[i]? with
    | some s, some a => s.needs.foldl (fun acc n => unF (untilF l L f n.toNat) acc) (a.mi + s.lasts, a.dn && a.kp)
    | _, _ => (0, false)
theorem untilF_at {l : List St} {L : List La} {f i : Nat} (h : i < l.length) (h' : i < L.length) : untilF l L (f + 1) i = l[i].needs.foldl (fun acc n => unF (untilF l L f n.toNat) acc) (L[i].mi + l[i].lasts, L[i].dn && L[i].kp) := by
  rw [untilF, List.getElem?_eq_getElem h, List.getElem?_eq_getElem h']
theorem fold_snoc {α β : Type} (f : β → α → β) (b : β) (l : List α) {k : Nat} (h : k < l.length) : (l.take (k + 1)).foldl f b = f ((l.take k).foldl f b) l[k] := by
  rw [List.take_succ_eq_append_getElem h, List.foldl_append]; rfl
/-- What is so of steps that are right. -/
def StRight (l : List St) : Prop := ∀ i (h : i < l.length), (1 ≤ l[i].lasts ∧ l[i].lasts ≤ 1000000) ∧ (0 ≤ l[i].warm ∧ l[i].warm ≤ 2000) ∧ ∀ n ∈ l[i].needs, 0 ≤ n ∧ n ≤ (i : Int) - 1

set_option maxRecDepth 100000 in
set_option maxHeartbeats 4000000 in
theorem until_any (l : List St) (A : Option Addr) (c B bk base g cap : Nat) (L : List La) (hr : Hid (StRight l)) (hmi : Hid (∀ a ∈ L, 0 ≤ a.mi ∧ a.mi ≤ 100000000)) : ∀ (f i : Nat) (w : World), i < f → i < l.length → BkOk l A c B bk base g cap L w →
    Calls Tryz.prog 180 #[.pointer (some ⟨bk, 0, none⟩), .int .i64 i] w fun e w' => e = .returned (.tuple #[.int .i64 (untilF l L f i).1, .bool (untilF l L f i).2]) ∧ Below w.heap.size w w'
  | 0, i, w, h, _, _ => absurd h (by omega)
  | f + 1, i, w, hif, hil, hbk => by
    have IH := Lib.hid (until_any l A c B bk base g cap L hr hmi f)
    have HBK := Lib.hid hbk
    have bb := hbk.blk; have lbb := bb.lt
    have hLl := hbk.len
    have hiL : i < L.length := by omega
    have hgl := hbk.own.lt g rfl
    obtain ⟨l0, l1, l2, l3, _, _, _⟩ := own_at4 hbk.own hiL hLl
    obtain ⟨gs, os, hA, hgs, s0, s1, s2, s3⟩ := hbk.st.row.at4 stF_len hil rfl
    have HNR := Lib.hid (hbk.st.needs _ (List.getElem_mem hil)).2
    have hnl := (hbk.st.needs _ (List.getElem_mem hil)).1
    have hBw := hbk.st.base
    have hgsw : gs < w.heap.size := by omega
    have hwid := hbk.wid
    have HU := Lib.hid (untilF_at (f := f) hil hiL)
    have hla := (hr.out i hil).1
    have HNE := Lib.hid (hr.out i hil).2.2
    have hmi1 := hmi.out _ (List.getElem_mem hiL)
    have HLl := Lib.hid hLl
    clear hbk hLl
    obtain ⟨a, ha⟩ : ∃ a, L[i] = a := ⟨_, rfl⟩
    rw [ha] at l0 l1 l2 l3 HU hmi1
    clear ha
    obtain ⟨s, hs⟩ : ∃ s, l[i] = s := ⟨_, rfl⟩
    rw [hs] at s0 s1 s2 s3 HNR hnl HU hla HNE
    clear hs
    obtain ⟨snm, slasts, swarm, sA, sc, needs⟩ := s
    dsimp only at s0 s1 s2 s3 HNR hnl HU hla HNE
    obtain ⟨adn, akp, ami, awa⟩ := a
    dsimp only at l0 l1 l2 l3 HU hmi1
    have e0 := bb.cell 0; have e1 := bb.cell 1
    have hwr : IntKind.i64.wrap (ami + slasts) = ami + slasts := IntWalk.i64_in _ (by omega)
    have bs := Blk.new w 250 #[.bool adn, .bool akp, .int .i64 ami, .int .i64 awa]
    have hBs : Below w.heap.size w (w.alloc (.cells #[.bool adn, .bool akp, .int .i64 ami, .int .i64 awa] 250)) := (Below.refl _ _).alloc (Nat.le_refl _) _
    have HA := Lib.hid hA
    have hAA := HA.out
    clear hA
    subst hAA
    cases adn
    · have hu0 : Hid (∃ u, untilF l L (f + 1) i = u) := Lib.hid ⟨_, rfl⟩
      clear hu0
      go_enter Tryz.func180, Tryz.ntmps180
      go_wp2
      go_quiet (fail)
      clear hwr
      go_wp2
      go_loopw [7, 8, 46] (fun u v j wr => ∃ (k : Nat) (m : Int) (b : Bool), k ≤ needs.length ∧ j = .int .i64 k ∧ u = .int .i64 m ∧ v = .bool b ∧ Hid ((m, b) = (needs.take k).foldl (fun acc n => unF (untilF l L f n.toNat) acc) (ami + slasts, false)) ∧ Below w.heap.size w wr) (fun _ _ j _ => needs.length - (intOf j).toNat)
      case atStart => exact ⟨0, _, _, Nat.zero_le _, rfl, rfl, rfl, Lib.hid rfl, by first | exact hBs | exact below_drewN' hBs _⟩
      case round =>
        obtain ⟨k, m, b, hk, rfl, rfl, rfl, HF, hBr⟩ := hrel
        by_cases hkl : k < needs.length
        · obtain ⟨gn, on, hAn, hgn, e2⟩ := intRow_at (HNR.out.below hBr (by omega)) hkl
          subst hAn
          obtain ⟨n1, n2⟩ := HNE.out _ (List.getElem_mem hkl)
          have HSN := Lib.hid (fold_snoc (fun acc n => unF (untilF l L f n.toNat) acc) (ami + slasts, false) needs hkl)
          obtain ⟨n, hn⟩ : ∃ n : Nat, needs[k] = (n : Int) := ⟨needs[k].toNat, by omega⟩
          rw [hn] at e2 n1 n2
          have HN := Lib.hid hn
          have hBK := HBK.out.gr hBr
          have hc := IH.out n wr (by omega) (by omega) hBK
          obtain ⟨u, hu⟩ : ∃ u, untilF l L f n = u := ⟨_, rfl⟩
          rw [hu] at hc
          have HX : Hid (unF u (m, b) = (needs.take (k + 1)).foldl (fun acc n => unF (untilF l L f n.toNat) acc) (ami + slasts, false)) := Lib.hid (by rw [HSN.out, ← HF.out, HN.out, Int.toNat_natCast, hu])
          have HC := Lib.hid hc
          clear hc hn hu HSN hBK
          obtain ⟨um, ub⟩ := u
          go_wp2_with fail
          refine HC.out.mono ?_
          rintro e w1 ⟨rfl, hB1⟩
          have hB2 := hBr.trans (hB1.mono (Below.size hBr))
          clear hB1
          cases b
          · go_wp2
            all_goals exact ⟨⟨k + 1, _, _, by omega, by go_num, rfl, rfl, Lib.hid (by rw [← HX.out]; unfold unF; simp; try omega), hB2⟩, by simp [intOf]; omega⟩
          · go_wp2
            all_goals exact ⟨⟨k + 1, _, _, by omega, by go_num, rfl, rfl, Lib.hid (by rw [← HX.out]; unfold unF; simp; try omega), hB2⟩, by simp [intOf]; omega⟩
        · obtain rfl : k = needs.length := by omega
          have HX : Hid ((m, b) = untilF l L (f + 1) i) := Lib.hid (by rw [HU.out, HF.out, List.take_length]; rfl)
          go_wp2
          go_ret2
          exact ⟨by rw [← HX.out]; rfl, hBr⟩
    · have hu0 : Hid (∃ u, untilF l L (f + 1) i = u) := Lib.hid ⟨_, rfl⟩
      clear hu0
      go_enter Tryz.func180, Tryz.ntmps180
      go_wp2
      go_quiet (fail)
      clear hwr
      go_wp2
      go_loopw [7, 8, 46] (fun u v j wr => ∃ (k : Nat) (m : Int) (b : Bool), k ≤ needs.length ∧ j = .int .i64 k ∧ u = .int .i64 m ∧ v = .bool b ∧ Hid ((m, b) = (needs.take k).foldl (fun acc n => unF (untilF l L f n.toNat) acc) (ami + slasts, akp)) ∧ Below w.heap.size w wr) (fun _ _ j _ => needs.length - (intOf j).toNat)
      case atStart => exact ⟨0, _, _, Nat.zero_le _, rfl, rfl, rfl, Lib.hid rfl, by first | exact hBs | exact below_drewN' hBs _⟩
      case round =>
        obtain ⟨k, m, b, hk, rfl, rfl, rfl, HF, hBr⟩ := hrel
        by_cases hkl : k < needs.length
        · obtain ⟨gn, on, hAn, hgn, e2⟩ := intRow_at (HNR.out.below hBr (by omega)) hkl
          subst hAn
          obtain ⟨n1, n2⟩ := HNE.out _ (List.getElem_mem hkl)
          have HSN := Lib.hid (fold_snoc (fun acc n => unF (untilF l L f n.toNat) acc) (ami + slasts, akp) needs hkl)
          obtain ⟨n, hn⟩ : ∃ n : Nat, needs[k] = (n : Int) := ⟨needs[k].toNat, by omega⟩
          rw [hn] at e2 n1 n2
          have HN := Lib.hid hn
          have hBK := HBK.out.gr hBr
          have hc := IH.out n wr (by omega) (by omega) hBK
          obtain ⟨u, hu⟩ : ∃ u, untilF l L f n = u := ⟨_, rfl⟩
          rw [hu] at hc
          have HX : Hid (unF u (m, b) = (needs.take (k + 1)).foldl (fun acc n => unF (untilF l L f n.toNat) acc) (ami + slasts, akp)) := Lib.hid (by rw [HSN.out, ← HF.out, HN.out, Int.toNat_natCast, hu])
          have HC := Lib.hid hc
          clear hc hn hu HSN hBK
          obtain ⟨um, ub⟩ := u
          go_wp2_with fail
          refine HC.out.mono ?_
          rintro e w1 ⟨rfl, hB1⟩
          have hB2 := hBr.trans (hB1.mono (Below.size hBr))
          clear hB1
          cases b
          · go_wp2
            all_goals exact ⟨⟨k + 1, _, _, by omega, by go_num, rfl, rfl, Lib.hid (by rw [← HX.out]; unfold unF; simp; try omega), hB2⟩, by simp [intOf]; omega⟩
          · go_wp2
            all_goals exact ⟨⟨k + 1, _, _, by omega, by go_num, rfl, rfl, Lib.hid (by rw [← HX.out]; unfold unF; simp; try omega), hB2⟩, by simp [intOf]; omega⟩
        · obtain rfl : k = needs.length := by omega
          have HX : Hid ((m, b) = untilF l L (f + 1) i) := Lib.hid (by rw [HU.out, HF.out, List.take_length]; rfl)
          go_wp2
          go_ret2
          exact ⟨by rw [← HX.out]; rfl, hBr⟩
end Go.Proofs.YtlbpogklkkninaaGreatDoor
