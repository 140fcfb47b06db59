/- Contract: the copy of steps by the reference. Contract: the copy of a set-up of an office by the reference. -/
import Derived.Test.YtmdbpkomanhpoaaGreatDoorZqOsW
namespace Go.Proofs.YtmdbpkomanhpoaaGreatDoor
open Go.RowKit

/-- A step whose needs lie elsewhere. -/
def St.at_ (s : St) (A : Option Addr) (c : Nat) : St := ⟨s.nm, s.lasts, s.warm, A, c, s.needs⟩
theorem St.at_F (s : St) (A : Option Addr) (c : Nat) : stF (s.at_ A c) = (stF s).set 3 (.slice A s.needs.length c) := rfl
theorem Alike.set {l q : List St} (h : Alike l q) (k : Nat) (hk : k < q.length) (A : Option Addr) (c : Nat) : Alike l (q.set k (q[k].at_ A c)) := by
  refine ⟨by simpa using h.1, fun j hj hj' => ?_⟩
  have hjq : j < q.length := by simpa using hj'
  by_cases e : k = j
  · subst e
    rw [List.getElem_set_self]
    exact h.2 k hj hjq
  · rw [List.getElem_set_ne e]
    exact h.2 j hj hjq

set_option maxRecDepth 100000 in
set_option maxHeartbeats 2000000 in
theorem copySteps_any (l : List St) (A : Option Addr) (c B : Nat) (w : World) (hl : StOk l A c B w) (hA : A = none → c = 0) (hneed : ∀ p ∈ l, p.A = none → p.c = 0) (hn : l.length ≤ 1000) :
    Calls Tryz.prog 22 #[.slice A l.length c] w fun e w' => ∃ (q : List St) (A2 : Option Addr) (c2 : Nat), e = .returned (.slice A2 l.length c2) ∧ Alike l q ∧ w'.ownsRow w.heap.size 109 4 (.slice A2 l.length c2) l.length (rowsC stF q) ∧
      (∀ p ∈ q, w'.ownsRow w.heap.size 3 1 (.slice p.A p.needs.length p.c) p.needs.length (intsC p.needs)) ∧ Below w.heap.size w w' := by
  obtain ⟨i0, hi, hz0, hz1, hz2⟩ := info_parts infoSt
  have own := own_empty w 109 4
  have hB3 : Below w.heap.size w (w.alloc (.cells #[] 109)) := (Below.refl _ _).alloc (Nat.le_refl _) _
  have HS := Lib.hid ((Src.mk hl.row hA).alloc (.cells #[] 109))
  have HL := Lib.hid hl; have hB := hl.base
  have HND := Lib.hid hneed
  clear hl hA hneed
  go_enter Tryz.func22, Tryz.ntmps22
  go_wp2_with (at_builtin; refine wpList_append_row rfl _ _ 26 rfl w.heap.size 109 i0 (.agg #[.string ⟨#[]⟩, .int .i64 0, .int .i64 0, .slice none 0 0]) 4 56 Tryz.underlying26 hi hz0 hz1 hz2 rfl (by decide) _ _ _ rfl own A l.length c (rowsC stF l) rfl HS.out (rowsSt_one _) (by unfold maxLen; omega) (by omega) (by simp) ?_)
  intro v3 w3 own3 hgrow _
  have hB4 : Below w.heap.size w w3 := below_own hB3 (by omega) own hgrow
  try simp only [Nat.zero_add, List.nil_append] at own3
  clear own hgrow HS hB3
  obtain ⟨A3, c3, rfl, k3, k4, _⟩ := Row.ownd own3
  have HO := Lib.hid own3
  have hsh : Hid (0 < l.length → ∃ g, A3 = some ⟨g, 0, none⟩ ∧ g < w3.heap.size ∧ w.heap.size ≤ g) := Lib.hid (fun h0 => by
    obtain ⟨A', c', e1, _, hc⟩ := own_shape own3
    cases e1
    obtain ⟨g, e2, hb, hg, _, _⟩ := hc h0
    exact ⟨g, e2, hg, hb⟩)
  clear own3
  go_wp2
  go_loopw [4] (fun i wr => ∃ k : Nat, k ≤ l.length ∧ i = .int .i64 k ∧ Hid (∃ q : List St, Alike l q ∧ (∀ j (h : j < q.length), k ≤ j → q[j]? = l[j]?) ∧ (∀ j (h : j < q.length), j < k → wr.ownsRow w3.heap.size 3 1 (.slice q[j].A q[j].needs.length q[j].c) q[j].needs.length (intsC q[j].needs)) ∧ wr.ownsRow w.heap.size 109 4 (.slice A3 l.length c3) l.length (rowsC stF q)) ∧ Below w.heap.size w wr ∧ w3.heap.size ≤ wr.heap.size) (fun i _ => l.length - (intOf i).toNat)
  case atStart => exact ⟨0, Nat.zero_le _, rfl, Lib.hid ⟨l, Alike.refl l, fun _ _ _ => rfl, fun _ _ h => absurd h (by omega), HO.out⟩, hB4, Nat.le_refl _⟩
  case round =>
    obtain ⟨k, hk, rfl, HI, hBr, hW⟩ := hrel
    by_cases hlt : k < l.length
    · obtain ⟨g3, hA3, hg3, hg3'⟩ := hsh.out (by omega)
      obtain ⟨g, o, hA, hg, c0, c1, c2, d3⟩ := (HL.out.row.below hBr hB).at4 stF_len hlt rfl
      have HNR := Lib.hid ((HL.out.needs _ (List.getElem_mem hlt)).2.below hBr hB)
      have hnl := (HL.out.needs _ (List.getElem_mem hlt)).1
      have HNN := Lib.hid (HND.out _ (List.getElem_mem hlt))
      clear c0 c1 c2
      obtain ⟨m, hm⟩ : ∃ m, l[k] = m := ⟨_, rfl⟩
      have HM := Lib.hid hm
      rw [hm] at d3 HNR hnl HNN
      clear hm
      have HA := Lib.hid hA; have HA3 := Lib.hid hA3; clear hA hA3
      have hA := HA.out; subst hA
      have hA3 := HA3.out; subst hA3
      have hk3 : k < l.length := hlt
      go_wp2_with fail
      refine (copyIntsS_any m.needs m.A m.c _ (Src.mk HNR.out HNN.out) hnl).mono ?_
      rintro e w4 ⟨v4, rfl, own4, hB5⟩
      obtain ⟨A4, c4, rfl, _, _, _⟩ := Row.ownd own4
      have hg34 : g3 < w3.heap.size := hg3
      have hq' : Hid (∃ (q : List St) (hqk : k < q.length), q[k].needs = m.needs ∧ Alike l q ∧ (∀ j (h : j < q.length), k ≤ j → q[j]? = l[j]?) ∧ (∀ j (h : j < q.length), j < k → w4.ownsRow w3.heap.size 3 1 (.slice q[j].A q[j].needs.length q[j].c) q[j].needs.length (intsC q[j].needs)) ∧ w4.ownsRow w.heap.size 109 4 (.slice (some ⟨g3, 0, none⟩) l.length c3) l.length (rowsC stF q)) := Lib.hid (by
        obtain ⟨q, a1, a2, a3, a4⟩ := HI.out
        have hqk : k < q.length := by rw [a1.1]; exact hlt
        exact ⟨q, hqk, by rw [(a1.2 k hlt hqk).2.2.2, HM.out], a1, a2, fun j h hj => own_below (a3 j h hj) hB5, own_below a4 hB5⟩)
      have hst : ∃ x, w4.cell? ⟨g3, k * 4 + 3, none⟩ = some x ∧ w4.frozen? ⟨g3, k * 4 + 3, none⟩ = false := by
        obtain ⟨q, hqk, _, _, _, _, a4⟩ := hq'.out
        obtain ⟨_, hx | ⟨g', cap, cur, hv, hb, hh, hcap, hmax, hsz, htk⟩⟩ := a4
        · cases hx.1
        · cases hv
          have bl : Blk w4 g3 109 cur := hh
          exact ⟨_, (bl.cell _).trans (Array.getElem?_eq_getElem (by omega)), bl.frozen _⟩
      obtain ⟨x, hx, hxf⟩ := hst
      have hBw : Below w.heap.size w w4 := hBr.trans (hB5.mono hBr.size)
      have hW4 : w3.heap.size ≤ w4.heap.size := by have := hB5.size; omega
      have HO4 : Hid (w4.ownsRow w3.heap.size 3 1 (.slice A4 m.needs.length c4) m.needs.length (intsC m.needs)) := Lib.hid (own4.mono hW)
      clear own4 hB5 d3
      go_wp2
      refine ⟨⟨k + 1, by omega, by go_num, Lib.hid ?_, Below.setCell hBw (by simp; omega) _, by simp; omega⟩, by simp [intOf]; omega⟩
      obtain ⟨q, hqk, hqn, a1, a2, a3, a4⟩ := hq'.out
      have hp := own_put a4 (j := k * 4 + 3) (by omega) (.slice A4 m.needs.length c4)
      rw [rowsC_set stF_len q k hqk 3 (by omega) (.slice A4 m.needs.length c4) (q[k].at_ A4 c4) (by rw [St.at_F, hqn])] at hp
      refine ⟨q.set k (q[k].at_ A4 c4), a1.set k hqk A4 c4, fun j h hj => ?_, fun j h hj => ?_, hp⟩
      · rw [List.getElem?_set_ne (by omega)]
        exact a2 j (by simpa using h) (by omega)
      · by_cases e : k = j
        · subst e
          rw [List.getElem_set_self]
          have := own_far HO4.out (p := ⟨g3, k * 4 + 3, none⟩) (by simpa using hg34) (.slice A4 m.needs.length c4)
          show World.ownsRow _ _ _ 1 (.slice A4 q[k].needs.length c4) q[k].needs.length (intsC q[k].needs)
          rw [hqn]
          exact this
        · have hjq : j < q.length := by simpa using h
          rw [List.getElem_set_ne e]
          have := own_far (a3 j hjq (by omega)) (p := ⟨g3, k * 4 + 3, none⟩) (by simpa using hg34) (.slice A4 m.needs.length c4)
          exact this
    · obtain rfl : k = l.length := by omega
      go_wp2
      go_ret
      obtain ⟨q, h1, _, h3, h4⟩ := HI.out
      refine ⟨q, A3, c3, rfl, h1, h4, fun p hp => ?_, hBr⟩
      obtain ⟨j, hj, rfl⟩ := List.getElem_of_mem hp
      exact (h3 j hj (by rw [← h1.1]; exact hj)).mono (by have := hB4.size; omega)
end Go.Proofs.YtmdbpkomanhpoaaGreatDoor

namespace Go.Proofs.YtmdbpkomanhpoaaGreatDoor
open Go.RowKit

/-- The nil slices of a set-up have no room; its lists are not long. -/
structure SeNil (s : Se) (m : Me) : Prop where
  pn : m.pA = none → m.pc = 0
  sn : m.sA = none → m.sc = 0
  ln : m.lA = none → m.lc = 0
  nn : ∀ p ∈ s.st, p.A = none → p.c = 0
  pl : s.pe.length ≤ 1000
  sl : s.st.length ≤ 1000
  ll : s.lv.length ≤ 1000
theorem own_src {w : World} {base e size n cap : Nat} {A : Option Addr} {xs : List Value} (h : w.ownsRow base e size (.slice A n cap) n xs) : cap ≤ 9223372036854775807 ∧ n ≤ cap ∧ (A = none → cap = 0) := by
  obtain ⟨_, ⟨hv, h0⟩ | ⟨g, c, cur, hv, _, _, hc, hm, _, _⟩⟩ := h
  · cases hv; exact ⟨by omega, by omega, fun _ => rfl⟩
  · cases hv; exact ⟨by unfold maxLen at hm; omega, hc, fun e => by cases e⟩
theorem own_row_ {w : World} {base e size n cap : Nat} {A : Option Addr} {xs : List Value} (h : w.ownsRow base e size (.slice A n cap) n xs) : Row w w.heap.size size A n xs := by
  obtain ⟨A', c', e1, _, _, hR⟩ := Row.ownd h
  cases e1
  exact hR

theorem own_far13 {w : World} {base e size n g : Nat} {v : Value} {xs : List Value} (h : w.ownsRow base e size v n xs) (hg : g < base) (u0 u1 u2 u3 u4 u5 u6 u7 u8 u9 u10 u11 u12 : Value) : (((((((((((((w.setCell ⟨g, 0, none⟩ u0).setCell ⟨g, 1, none⟩ u1).setCell ⟨g, 2, none⟩ u2).setCell ⟨g, 3, none⟩ u3).setCell ⟨g, 4, none⟩ u4).setCell ⟨g, 5, none⟩ u5).setCell ⟨g, 6, none⟩ u6).setCell ⟨g, 7, none⟩ u7).setCell ⟨g, 8, none⟩ u8).setCell ⟨g, 9, none⟩ u9).setCell ⟨g, 10, none⟩ u10).setCell ⟨g, 11, none⟩ u11).setCell ⟨g, 12, none⟩ u12).ownsRow base e size v n xs :=
  own_far (own_far (own_far (own_far (own_far (own_far (own_far (own_far (own_far (own_far (own_far (own_far (own_far (h) (p := ⟨g, 0, none⟩) hg u0) (p := ⟨g, 1, none⟩) hg u1) (p := ⟨g, 2, none⟩) hg u2) (p := ⟨g, 3, none⟩) hg u3) (p := ⟨g, 4, none⟩) hg u4) (p := ⟨g, 5, none⟩) hg u5) (p := ⟨g, 6, none⟩) hg u6) (p := ⟨g, 7, none⟩) hg u7) (p := ⟨g, 8, none⟩) hg u8) (p := ⟨g, 9, none⟩) hg u9) (p := ⟨g, 10, none⟩) hg u10) (p := ⟨g, 11, none⟩) hg u11) (p := ⟨g, 12, none⟩) hg u12
theorem Below.set13 {n g : Nat} {a w : World} (h : Below n a w) (hg : n ≤ g) (u0 u1 u2 u3 u4 u5 u6 u7 u8 u9 u10 u11 u12 : Value) : Below n a (((((((((((((w.setCell ⟨g, 0, none⟩ u0).setCell ⟨g, 1, none⟩ u1).setCell ⟨g, 2, none⟩ u2).setCell ⟨g, 3, none⟩ u3).setCell ⟨g, 4, none⟩ u4).setCell ⟨g, 5, none⟩ u5).setCell ⟨g, 6, none⟩ u6).setCell ⟨g, 7, none⟩ u7).setCell ⟨g, 8, none⟩ u8).setCell ⟨g, 9, none⟩ u9).setCell ⟨g, 10, none⟩ u10).setCell ⟨g, 11, none⟩ u11).setCell ⟨g, 12, none⟩ u12) :=
  Below.setCell (Below.setCell (Below.setCell (Below.setCell (Below.setCell (Below.setCell (Below.setCell (Below.setCell (Below.setCell (Below.setCell (Below.setCell (Below.setCell (Below.setCell (h) hg u0) hg u1) hg u2) hg u3) hg u4) hg u5) hg u6) hg u7) hg u8) hg u9) hg u10) hg u11) hg u12
theorem Blk.set13 {w : World} {g : Nat} {t : TypeId} {v0 v1 v2 v3 v4 v5 v6 v7 v8 v9 v10 v11 v12 : Value} (h : Blk w g t #[v0, v1, v2, v3, v4, v5, v6, v7, v8, v9, v10, v11, v12]) (u0 u1 u2 u3 u4 u5 u6 u7 u8 u9 u10 u11 u12 : Value) : Blk (((((((((((((w.setCell ⟨g, 0, none⟩ u0).setCell ⟨g, 1, none⟩ u1).setCell ⟨g, 2, none⟩ u2).setCell ⟨g, 3, none⟩ u3).setCell ⟨g, 4, none⟩ u4).setCell ⟨g, 5, none⟩ u5).setCell ⟨g, 6, none⟩ u6).setCell ⟨g, 7, none⟩ u7).setCell ⟨g, 8, none⟩ u8).setCell ⟨g, 9, none⟩ u9).setCell ⟨g, 10, none⟩ u10).setCell ⟨g, 11, none⟩ u11).setCell ⟨g, 12, none⟩ u12) g t #[u0, u1, u2, u3, u4, u5, u6, u7, u8, u9, u10, u11, u12] := by
  have h : Blk (w.setCell ⟨g, 0, none⟩ u0) g t #[u0, v1, v2, v3, v4, v5, v6, v7, v8, v9, v10, v11, v12] := Blk.set_ h 0 u0
  have h : Blk ((w.setCell ⟨g, 0, none⟩ u0).setCell ⟨g, 1, none⟩ u1) g t #[u0, u1, v2, v3, v4, v5, v6, v7, v8, v9, v10, v11, v12] := Blk.set_ h 1 u1
  have h : Blk (((w.setCell ⟨g, 0, none⟩ u0).setCell ⟨g, 1, none⟩ u1).setCell ⟨g, 2, none⟩ u2) g t #[u0, u1, u2, v3, v4, v5, v6, v7, v8, v9, v10, v11, v12] := Blk.set_ h 2 u2
  have h : Blk ((((w.setCell ⟨g, 0, none⟩ u0).setCell ⟨g, 1, none⟩ u1).setCell ⟨g, 2, none⟩ u2).setCell ⟨g, 3, none⟩ u3) g t #[u0, u1, u2, u3, v4, v5, v6, v7, v8, v9, v10, v11, v12] := Blk.set_ h 3 u3
  have h : Blk (((((w.setCell ⟨g, 0, none⟩ u0).setCell ⟨g, 1, none⟩ u1).setCell ⟨g, 2, none⟩ u2).setCell ⟨g, 3, none⟩ u3).setCell ⟨g, 4, none⟩ u4) g t #[u0, u1, u2, u3, u4, v5, v6, v7, v8, v9, v10, v11, v12] := Blk.set_ h 4 u4
  have h : Blk ((((((w.setCell ⟨g, 0, none⟩ u0).setCell ⟨g, 1, none⟩ u1).setCell ⟨g, 2, none⟩ u2).setCell ⟨g, 3, none⟩ u3).setCell ⟨g, 4, none⟩ u4).setCell ⟨g, 5, none⟩ u5) g t #[u0, u1, u2, u3, u4, u5, v6, v7, v8, v9, v10, v11, v12] := Blk.set_ h 5 u5
  have h : Blk (((((((w.setCell ⟨g, 0, none⟩ u0).setCell ⟨g, 1, none⟩ u1).setCell ⟨g, 2, none⟩ u2).setCell ⟨g, 3, none⟩ u3).setCell ⟨g, 4, none⟩ u4).setCell ⟨g, 5, none⟩ u5).setCell ⟨g, 6, none⟩ u6) g t #[u0, u1, u2, u3, u4, u5, u6, v7, v8, v9, v10, v11, v12] := Blk.set_ h 6 u6
  have h : Blk ((((((((w.setCell ⟨g, 0, none⟩ u0).setCell ⟨g, 1, none⟩ u1).setCell ⟨g, 2, none⟩ u2).setCell ⟨g, 3, none⟩ u3).setCell ⟨g, 4, none⟩ u4).setCell ⟨g, 5, none⟩ u5).setCell ⟨g, 6, none⟩ u6).setCell ⟨g, 7, none⟩ u7) g t #[u0, u1, u2, u3, u4, u5, u6, u7, v8, v9, v10, v11, v12] := Blk.set_ h 7 u7
  have h : Blk (((((((((w.setCell ⟨g, 0, none⟩ u0).setCell ⟨g, 1, none⟩ u1).setCell ⟨g, 2, none⟩ u2).setCell ⟨g, 3, none⟩ u3).setCell ⟨g, 4, none⟩ u4).setCell ⟨g, 5, none⟩ u5).setCell ⟨g, 6, none⟩ u6).setCell ⟨g, 7, none⟩ u7).setCell ⟨g, 8, none⟩ u8) g t #[u0, u1, u2, u3, u4, u5, u6, u7, u8, v9, v10, v11, v12] := Blk.set_ h 8 u8
  have h : Blk ((((((((((w.setCell ⟨g, 0, none⟩ u0).setCell ⟨g, 1, none⟩ u1).setCell ⟨g, 2, none⟩ u2).setCell ⟨g, 3, none⟩ u3).setCell ⟨g, 4, none⟩ u4).setCell ⟨g, 5, none⟩ u5).setCell ⟨g, 6, none⟩ u6).setCell ⟨g, 7, none⟩ u7).setCell ⟨g, 8, none⟩ u8).setCell ⟨g, 9, none⟩ u9) g t #[u0, u1, u2, u3, u4, u5, u6, u7, u8, u9, v10, v11, v12] := Blk.set_ h 9 u9
  have h : Blk (((((((((((w.setCell ⟨g, 0, none⟩ u0).setCell ⟨g, 1, none⟩ u1).setCell ⟨g, 2, none⟩ u2).setCell ⟨g, 3, none⟩ u3).setCell ⟨g, 4, none⟩ u4).setCell ⟨g, 5, none⟩ u5).setCell ⟨g, 6, none⟩ u6).setCell ⟨g, 7, none⟩ u7).setCell ⟨g, 8, none⟩ u8).setCell ⟨g, 9, none⟩ u9).setCell ⟨g, 10, none⟩ u10) g t #[u0, u1, u2, u3, u4, u5, u6, u7, u8, u9, u10, v11, v12] := Blk.set_ h 10 u10
  have h : Blk ((((((((((((w.setCell ⟨g, 0, none⟩ u0).setCell ⟨g, 1, none⟩ u1).setCell ⟨g, 2, none⟩ u2).setCell ⟨g, 3, none⟩ u3).setCell ⟨g, 4, none⟩ u4).setCell ⟨g, 5, none⟩ u5).setCell ⟨g, 6, none⟩ u6).setCell ⟨g, 7, none⟩ u7).setCell ⟨g, 8, none⟩ u8).setCell ⟨g, 9, none⟩ u9).setCell ⟨g, 10, none⟩ u10).setCell ⟨g, 11, none⟩ u11) g t #[u0, u1, u2, u3, u4, u5, u6, u7, u8, u9, u10, u11, v12] := Blk.set_ h 11 u11
  have h : Blk (((((((((((((w.setCell ⟨g, 0, none⟩ u0).setCell ⟨g, 1, none⟩ u1).setCell ⟨g, 2, none⟩ u2).setCell ⟨g, 3, none⟩ u3).setCell ⟨g, 4, none⟩ u4).setCell ⟨g, 5, none⟩ u5).setCell ⟨g, 6, none⟩ u6).setCell ⟨g, 7, none⟩ u7).setCell ⟨g, 8, none⟩ u8).setCell ⟨g, 9, none⟩ u9).setCell ⟨g, 10, none⟩ u10).setCell ⟨g, 11, none⟩ u11).setCell ⟨g, 12, none⟩ u12) g t #[u0, u1, u2, u3, u4, u5, u6, u7, u8, u9, u10, u11, u12] := Blk.set_ h 12 u12
  exact h

set_option maxRecDepth 100000 in
set_option maxHeartbeats 4000000 in
theorem copySetup_any (s : Se) (m : Me) (B : Nat) (w : World) (hs : SeOk s m B w) (hn : SeNil s m) :
    Calls Tryz.prog 8 #[.agg (seC s m)] w fun e w' => ∃ (q : List St) (m' : Me), e = .returned (.agg (seC ⟨s.pe, s.cd, s.thick, q, s.tk, s.gf, s.gt, s.lv⟩ m')) ∧ Alike s.st q ∧
      SeOk ⟨s.pe, s.cd, s.thick, q, s.tk, s.gf, s.gt, s.lv⟩ m' w'.heap.size w' ∧ SeNil ⟨s.pe, s.cd, s.thick, q, s.tk, s.gf, s.gt, s.lv⟩ m' ∧ Below w.heap.size w w' := by
  obtain ⟨i_2, hi_2, hz0_2, hz1_2, hz2_2⟩ := info_parts infoPe
  obtain ⟨i_3, hi_3, hz0_3, hz1_3, hz2_3⟩ := info_parts infoLv
  have HS := Lib.hid hs; have hB := hs.base; have HN := Lib.hid hn
  have npl := hn.pl; have nsl := hn.sl; have nll := hn.ll
  clear hs hn
  have bb := (Blk.new w 33 (seC s m)).alloc (.cells #[.slice none 0 0, .string ⟨#[]⟩, .slice none 0 0, .slice none 0 0, .int .i64 0, .slice none 0 0, .int .i64 0, .int .i64 0, .int .i64 0, .int .i64 0, .int .i64 0, .int .i64 0, .slice none 0 0] 33 (0, 0))
  have bz := Blk.new' (w.alloc (.cells (seC s m) 33)) 33 #[.slice none 0 0, .string ⟨#[]⟩, .slice none 0 0, .slice none 0 0, .int .i64 0, .slice none 0 0, .int .i64 0, .int .i64 0, .int .i64 0, .int .i64 0, .int .i64 0, .int .i64 0, .slice none 0 0] (g := w.heap.size + 1) (by simp)
  have hBB : Below w.heap.size w ((w.alloc (.cells (seC s m) 33)).alloc (.cells #[.slice none 0 0, .string ⟨#[]⟩, .slice none 0 0, .slice none 0 0, .int .i64 0, .slice none 0 0, .int .i64 0, .int .i64 0, .int .i64 0, .int .i64 0, .int .i64 0, .int .i64 0, .slice none 0 0] 33)) := (by repeat (first | (with_reducible exact Below.refl _ _) | (with_reducible assumption) | ((with_reducible refine Below.setCell ?_ ?_ _); rotate_left; · (first | exact Nat.le_refl _ | (simp; done) | (simp; omega) | omega)) | ((with_reducible refine Below.alloc ?_ ?_ _); rotate_left; · (first | exact Nat.le_refl _ | (simp; done) | (simp; omega) | omega)) | (with_reducible apply Below.drew) | (with_reducible apply below_drewN') | (refine Below.trans ?_ (Below.mono (by assumption) (by first | exact Nat.le_refl _ | (simp; done) | (simp; omega) | omega))) | exact Below.refl _ _ | assumption))
  obtain ⟨W0, hW0⟩ : ∃ W0, W0 = ((w.alloc (.cells (seC s m) 33)).alloc (.cells #[.slice none 0 0, .string ⟨#[]⟩, .slice none 0 0, .slice none 0 0, .int .i64 0, .slice none 0 0, .int .i64 0, .int .i64 0, .int .i64 0, .int .i64 0, .int .i64 0, .int .i64 0, .slice none 0 0] 33)) := ⟨_, rfl⟩
  have hsz0 : W0.heap.size = w.heap.size + 2 := by rw [hW0]; simp
  rw [← hW0] at bb bz hBB
  have own0 := own_empty W0 104 2
  rw [hsz0] at own0
  have hBe : Below w.heap.size w (W0.alloc (.cells #[] 104)) := hBB.alloc hBB.size _
  replace bb := bb.alloc (.cells #[] 104 (0, 0))
  replace bz := bz.alloc (.cells #[] 104 (0, 0))
  obtain ⟨d0, d1, d2, d3, d4, d5, d6, d7, d8, d9, d10, d11, d12, df⟩ := blk13 bb
  have lbb := bb.lt

  have HS1 := Lib.hid (Src.mk (HS.out.pe.row.below hBe hB) HN.out.pn)
  go_enter Tryz.func8, Tryz.ntmps8
  go_upto_region 1 with (fail)
  rw [← hW0]
  clear hW0
  go_wp2_with (at_builtin; refine wpList_append_row rfl _ _ 22 rfl (w.heap.size + 2) 104 i_2 (.agg #[.string ⟨#[]⟩, .int .i64 0]) 2 24 Tryz.underlying22 hi_2 hz0_2 hz1_2 hz2_2 rfl (by decide) _ _ _ rfl own0 m.pA s.pe.length m.pc (rowsC peF s.pe) rfl HS1.out (rowsPe_one _) (by unfold maxLen; omega) (by omega) ?hb ?_)
  case hb => simp; omega
  intro v3 w3 own3 hgrow _
  try simp only [Nat.zero_add, List.nil_append] at own3
  replace bb := bb.grown hgrow (own_ne own0 (.inl (by omega)))
  replace bz := bz.grown hgrow (own_ne own0 (.inl (by omega)))
  have hB3 : Below w.heap.size w w3 := below_own hBe (by omega) own0 hgrow
  have hz3 : w.heap.size + 2 ≤ w3.heap.size := by have := hgrow.size; simp at this; omega
  clear d0 d1 d2 d3 d4 d5 d6 d7 d8 d9 d10 d11 d12 df lbb
  clear hgrow own0 hBe hBB hsz0 HS1
  obtain ⟨A3, c3, rfl, _, _, _⟩ := Row.ownd own3
  obtain ⟨d0, d1, d2, d3, d4, d5, d6, d7, d8, d9, d10, d11, d12, df⟩ := blk13 bb
  have lbb := bb.lt

  have hB4 : Below w.heap.size w (w3.setCell ⟨w.heap.size, 0, none⟩ (.slice A3 s.pe.length c3)) := hB3.setCell (by simp) _
  have HC1 := Lib.hid (HS.out.cd.below hB4 hB)
  go_wp2_with fail
  refine (rCopy_any s.cd m.eA m.ec m.rA m.rc B _ HC1.out).mono ?_
  rintro e w5 ⟨A5, c5, A6, c6, rfl, own5, own6, hB5⟩
  clear d0 d1 d2 d3 d4 d5 d6 d7 d8 d9 d10 d11 d12 df lbb
  replace bb := (bb.set_ 0 (.slice A3 s.pe.length c3)).below hB5 (bb.set_ 0 _).lt
  replace bz := (bz.far (p := ⟨w.heap.size, 0, none⟩) (by simp) (.slice A3 s.pe.length c3)).below hB5 (by simp; omega)
  replace own3 := own_below (own_far own3 (p := ⟨w.heap.size, 0, none⟩) (by simp) (.slice A3 s.pe.length c3)) hB5
  replace own5 := own5.mono (base' := w.heap.size + 2) (by simpa using hz3)
  replace own6 := own6.mono (base' := w.heap.size + 2) (by simpa using hz3)
  have hB6 := hB4.trans (hB5.mono hB4.size)
  have hz5 : w.heap.size + 2 ≤ w5.heap.size := by have := hB5.size; simp at this; omega
  clear hB3 hB4 hB5 HC1
  obtain ⟨d0, d1, d2, d3, d4, d5, d6, d7, d8, d9, d10, d11, d12, df⟩ := blk13 bb
  have lbb := bb.lt

  have hB7 : Below w.heap.size w (((w5.setCell ⟨w.heap.size, 1, none⟩ (.string s.cd.nm)).setCell ⟨w.heap.size, 2, none⟩ (.slice A5 s.cd.ex.length c5)).setCell ⟨w.heap.size, 3, none⟩ (.slice A6 s.cd.rows.length c6)) := ((hB6.setCell (by simp) _).setCell (by simp) _).setCell (by simp) _
  have HC2 := Lib.hid (HS.out.st.below hB7 hB)
  go_wp2_with fail
  refine (copySteps_any s.st m.sA m.sc B _ HC2.out HN.out.sn HN.out.nn nsl).mono ?_
  rintro e w7 ⟨q, A7, c7, rfl, hal, own7, ownN, hB8⟩
  clear d0 d1 d2 d3 d4 d5 d6 d7 d8 d9 d10 d11 d12 df lbb
  replace bb := (((bb.set_ 1 (.string s.cd.nm)).set_ 2 (.slice A5 s.cd.ex.length c5)).set_ 3 (.slice A6 s.cd.rows.length c6)).below hB8 (((bb.set_ 1 _).set_ 2 _).set_ 3 _).lt
  replace bz := (((bz.far (p := ⟨w.heap.size, 1, none⟩) (by simp) (.string s.cd.nm)).far (p := ⟨w.heap.size, 2, none⟩) (by simp) (.slice A5 s.cd.ex.length c5)).far (p := ⟨w.heap.size, 3, none⟩) (by simp) (.slice A6 s.cd.rows.length c6)).below hB8 (by simp; omega)
  replace own3 := own_below (own_far (own_far (own_far own3 (p := ⟨w.heap.size, 1, none⟩) (by simp) (.string s.cd.nm)) (p := ⟨w.heap.size, 2, none⟩) (by simp) (.slice A5 s.cd.ex.length c5)) (p := ⟨w.heap.size, 3, none⟩) (by simp) (.slice A6 s.cd.rows.length c6)) hB8
  replace own5 := own_below (own_far (own_far (own_far own5 (p := ⟨w.heap.size, 1, none⟩) (by simp) (.string s.cd.nm)) (p := ⟨w.heap.size, 2, none⟩) (by simp) (.slice A5 s.cd.ex.length c5)) (p := ⟨w.heap.size, 3, none⟩) (by simp) (.slice A6 s.cd.rows.length c6)) hB8
  replace own6 := own_below (own_far (own_far (own_far own6 (p := ⟨w.heap.size, 1, none⟩) (by simp) (.string s.cd.nm)) (p := ⟨w.heap.size, 2, none⟩) (by simp) (.slice A5 s.cd.ex.length c5)) (p := ⟨w.heap.size, 3, none⟩) (by simp) (.slice A6 s.cd.rows.length c6)) hB8
  replace own7 := own7.mono (base' := w.heap.size + 2) (by simpa using hz5)
  have HON : Hid (∀ p ∈ q, w7.ownsRow (w.heap.size + 2) 3 1 (.slice p.A p.needs.length p.c) p.needs.length (intsC p.needs)) := Lib.hid fun p hp => (ownN p hp).mono (by simpa using hz5)
  have hB9 := hB7.trans (hB8.mono hB7.size)
  have hz7 : w.heap.size + 2 ≤ w7.heap.size := by have := hB8.size; simp at this; omega
  have HAL := Lib.hid hal
  clear hB6 hB7 hB8 HC2 ownN hal
  obtain ⟨d0, d1, d2, d3, d4, d5, d6, d7, d8, d9, d10, d11, d12, df⟩ := blk13 bb
  have lbb := bb.lt

  have hBe : Below w.heap.size w ((w7.setCell ⟨w.heap.size, 5, none⟩ (.slice A7 s.st.length c7)).alloc (.cells #[] 111)) := (hB9.setCell (by simp) _).alloc (by simp; omega) _
  have own0 : ((w7.setCell ⟨w.heap.size, 5, none⟩ (.slice A7 s.st.length c7)).alloc (.cells #[] 111)).ownsRow (w.heap.size + 2) 111 2 (.slice (some ⟨w7.heap.size, 0, none⟩) 0 0) 0 [] := by
    have h := own_empty (w7.setCell ⟨w.heap.size, 5, none⟩ (.slice A7 s.st.length c7)) 111 2
    have h := h.mono (base' := w.heap.size + 2) (by simpa using hz7)
    simpa using h
  have HS3 := Lib.hid (Src.mk (HS.out.lv.row.below hBe hB) HN.out.ln)
  go_wp2_with (at_builtin; refine wpList_append_row rfl _ _ 31 rfl (w.heap.size + 2) 111 i_3 (.agg #[.int .i64 0, .int .i64 0]) 2 16 Tryz.underlying31 hi_3 hz0_3 hz1_3 hz2_3 rfl (by decide) _ _ _ rfl own0 m.lA s.lv.length m.lc (rowsC lvF s.lv) rfl HS3.out (rowsLv_one _) (by unfold maxLen; omega) (by omega) ?hb ?_)
  case hb => simp; omega
  intro v9 w9 own9 hgrow _
  try simp only [Nat.zero_add, List.nil_append] at own9
  clear d0 d1 d2 d3 d4 d5 d6 d7 d8 d9 d10 d11 d12 df lbb
  replace bb := ((bb.set_ 5 (.slice A7 s.st.length c7)).alloc (.cells #[] 111 (0, 0))).grown hgrow (own_ne own0 (.inl (by omega)))
  replace bz := ((bz.far (p := ⟨w.heap.size, 5, none⟩) (by simp) (.slice A7 s.st.length c7)).alloc (.cells #[] 111 (0, 0))).grown hgrow (own_ne own0 (.inl (by omega)))
  have keep : ∀ {base e size n : Nat} {v : Value} {xs : List Value}, w.heap.size + 2 ≤ base → (v.ownBlock = none ∨ v.ownBlock ≠ some w7.heap.size) → w7.ownsRow base e size v n xs → w9.ownsRow base e size v n xs := fun hb hne h =>
    (((own_far h (p := ⟨w.heap.size, 5, none⟩) (by simp; omega) (.slice A7 s.st.length c7)).alloc (.cells #[] 111 (0, 0))).kept hgrow (by simpa [Value.ownBlock] using hne))
  have lt7 : ∀ {base e size n : Nat} {v : Value} {xs : List Value}, w7.ownsRow base e size v n xs → (v.ownBlock = none ∨ v.ownBlock ≠ some w7.heap.size) := fun h => .inr fun e => by have := (h.lt _ e).2; omega
  replace own3 := keep (by omega) (lt7 own3) own3
  replace own5 := keep (by omega) (lt7 own5) own5
  replace own6 := keep (by omega) (lt7 own6) own6
  replace own7 := keep (by omega) (lt7 own7) own7
  have HON9 : Hid (∀ p ∈ q, w9.ownsRow (w.heap.size + 2) 3 1 (.slice p.A p.needs.length p.c) p.needs.length (intsC p.needs)) := Lib.hid fun p hp => keep (by omega) (lt7 (HON.out p hp)) (HON.out p hp)
  have hBA : Below w.heap.size w w9 := below_own hBe (by omega) own0 hgrow
  clear keep lt7 HON hgrow own0 hBe hB9 HS3
  obtain ⟨A9, c9, rfl, _, _, _⟩ := Row.ownd own9
  obtain ⟨d0, d1, d2, d3, d4, d5, d6, d7, d8, d9, d10, d11, d12, df⟩ := blk13 bb
  have lbb := bb.lt

  obtain ⟨z0, z1, z2, z3, z4, z5, z6, z7, z8, z9, z10, z11, z12, zf⟩ := blk13 bz
  have lbz := bz.lt
  go_wp2
  have bzF := Blk.set13 (bz.far (p := ⟨w.heap.size, 12, none⟩) (by simp) (.slice A9 s.lv.length c9)) (.slice A3 s.pe.length c3) (.string s.cd.nm) (.slice A5 s.cd.ex.length c5) (.slice A6 s.cd.rows.length c6) (.int .i64 s.thick) (.slice A7 s.st.length c7) (.int .i64 s.tk.frm) (.int .i64 s.tk.til) (.int .i64 s.tk.slip) (.int .i64 s.tk.reach) (.int .i64 s.gf) (.int .i64 s.gt) (.slice A9 s.lv.length c9)
  have F3 := own_far13 (own_far own3 (p := ⟨w.heap.size, 12, none⟩) (by simp) (.slice A9 s.lv.length c9)) (g := w.heap.size + 1) (by omega) (.slice A3 s.pe.length c3) (.string s.cd.nm) (.slice A5 s.cd.ex.length c5) (.slice A6 s.cd.rows.length c6) (.int .i64 s.thick) (.slice A7 s.st.length c7) (.int .i64 s.tk.frm) (.int .i64 s.tk.til) (.int .i64 s.tk.slip) (.int .i64 s.tk.reach) (.int .i64 s.gf) (.int .i64 s.gt) (.slice A9 s.lv.length c9)
  have F5 := own_far13 (own_far own5 (p := ⟨w.heap.size, 12, none⟩) (by simp) (.slice A9 s.lv.length c9)) (g := w.heap.size + 1) (by omega) (.slice A3 s.pe.length c3) (.string s.cd.nm) (.slice A5 s.cd.ex.length c5) (.slice A6 s.cd.rows.length c6) (.int .i64 s.thick) (.slice A7 s.st.length c7) (.int .i64 s.tk.frm) (.int .i64 s.tk.til) (.int .i64 s.tk.slip) (.int .i64 s.tk.reach) (.int .i64 s.gf) (.int .i64 s.gt) (.slice A9 s.lv.length c9)
  have F6 := own_far13 (own_far own6 (p := ⟨w.heap.size, 12, none⟩) (by simp) (.slice A9 s.lv.length c9)) (g := w.heap.size + 1) (by omega) (.slice A3 s.pe.length c3) (.string s.cd.nm) (.slice A5 s.cd.ex.length c5) (.slice A6 s.cd.rows.length c6) (.int .i64 s.thick) (.slice A7 s.st.length c7) (.int .i64 s.tk.frm) (.int .i64 s.tk.til) (.int .i64 s.tk.slip) (.int .i64 s.tk.reach) (.int .i64 s.gf) (.int .i64 s.gt) (.slice A9 s.lv.length c9)
  have F7 := own_far13 (own_far own7 (p := ⟨w.heap.size, 12, none⟩) (by simp) (.slice A9 s.lv.length c9)) (g := w.heap.size + 1) (by omega) (.slice A3 s.pe.length c3) (.string s.cd.nm) (.slice A5 s.cd.ex.length c5) (.slice A6 s.cd.rows.length c6) (.int .i64 s.thick) (.slice A7 s.st.length c7) (.int .i64 s.tk.frm) (.int .i64 s.tk.til) (.int .i64 s.tk.slip) (.int .i64 s.tk.reach) (.int .i64 s.gf) (.int .i64 s.gt) (.slice A9 s.lv.length c9)
  have F9 := own_far13 (own_far own9 (p := ⟨w.heap.size, 12, none⟩) (by simp) (.slice A9 s.lv.length c9)) (g := w.heap.size + 1) (by omega) (.slice A3 s.pe.length c3) (.string s.cd.nm) (.slice A5 s.cd.ex.length c5) (.slice A6 s.cd.rows.length c6) (.int .i64 s.thick) (.slice A7 s.st.length c7) (.int .i64 s.tk.frm) (.int .i64 s.tk.til) (.int .i64 s.tk.slip) (.int .i64 s.tk.reach) (.int .i64 s.gf) (.int .i64 s.gt) (.slice A9 s.lv.length c9)
  have FN := fun p hp => own_far13 (own_far (HON9.out p hp) (p := ⟨w.heap.size, 12, none⟩) (by simp) (.slice A9 s.lv.length c9)) (g := w.heap.size + 1) (by omega) (.slice A3 s.pe.length c3) (.string s.cd.nm) (.slice A5 s.cd.ex.length c5) (.slice A6 s.cd.rows.length c6) (.int .i64 s.thick) (.slice A7 s.st.length c7) (.int .i64 s.tk.frm) (.int .i64 s.tk.til) (.int .i64 s.tk.slip) (.int .i64 s.tk.reach) (.int .i64 s.gf) (.int .i64 s.gt) (.slice A9 s.lv.length c9)
  have FB := Below.set13 (hBA.setCell (p := ⟨w.heap.size, 12, none⟩) (by simp) (.slice A9 s.lv.length c9)) (g := w.heap.size + 1) (by omega) (.slice A3 s.pe.length c3) (.string s.cd.nm) (.slice A5 s.cd.ex.length c5) (.slice A6 s.cd.rows.length c6) (.int .i64 s.thick) (.slice A7 s.st.length c7) (.int .i64 s.tk.frm) (.int .i64 s.tk.til) (.int .i64 s.tk.slip) (.int .i64 s.tk.reach) (.int .i64 s.gf) (.int .i64 s.gt) (.slice A9 s.lv.length c9)
  obtain ⟨y0, y1, y2, y3, y4, y5, y6, y7, y8, y9, y10, y11, y12, yf⟩ := blk13 bzF
  have hql := HAL.out.1
  refine bodyPost_ret (v := .agg #[.slice A3 s.pe.length c3, .string s.cd.nm, .slice A5 s.cd.ex.length c5, .slice A6 s.cd.rows.length c6, .int .i64 s.thick, .slice A7 s.st.length c7, .int .i64 s.tk.frm, .int .i64 s.tk.til, .int .i64 s.tk.slip, .int .i64 s.tk.reach, .int .i64 s.gf, .int .i64 s.gt, .slice A9 s.lv.length c9]) ?_ rfl ⟨q, ⟨A3, c3, A5, c5, A6, c6, A7, c7, A9, c9⟩, ?_, HAL.out, ⟨?_, ?_, ?_, ?_⟩, ?_, FB⟩
  · simp [results, Tryz.results8, go_sem, y0, y1, y2, y3, y4, y5, y6, y7, y8, y9, y10, y11, y12]
  · show _ = Ending.returned (.agg (seC _ _))
    unfold seC
    rw [hql]
  · exact ⟨HS.out.pe.nm, (own_src F3).2.1, (own_src F3).1, own_row_ F3, Nat.le_refl _⟩
  · exact ⟨HS.out.cd.nm, HS.out.cd.len, HS.out.cd.len', own_row_ F5, own_row_ F6, (own_src F5).2.2, (own_src F6).2.2, Nat.le_refl _⟩
  · refine ⟨fun p hp => ?_, fun p hp => ⟨?_, own_row_ (FN p hp)⟩, by rw [hql]; exact (own_src F7).2.1, (own_src F7).1, by rw [hql]; exact own_row_ F7, Nat.le_refl _⟩
    · obtain ⟨j, hj, rfl⟩ := List.getElem_of_mem hp
      have hj' : j < q.length := hj
      rw [(HAL.out.2 j (by omega) hj').1]
      exact HS.out.st.nm _ (List.getElem_mem _)
    · obtain ⟨j, hj, rfl⟩ := List.getElem_of_mem hp
      have hj' : j < q.length := hj
      rw [(HAL.out.2 j (by omega) hj').2.2.2]
      exact (HS.out.st.needs _ (List.getElem_mem _)).1
  · exact ⟨(own_src F9).2.1, (own_src F9).1, own_row_ F9, Nat.le_refl _⟩
  · exact ⟨(own_src F3).2.2, (own_src F7).2.2, (own_src F9).2.2, fun p hp => (own_src (FN p hp)).2.2, npl, by show q.length ≤ 1000; omega, nll⟩
end Go.Proofs.YtmdbpkomanhpoaaGreatDoor
