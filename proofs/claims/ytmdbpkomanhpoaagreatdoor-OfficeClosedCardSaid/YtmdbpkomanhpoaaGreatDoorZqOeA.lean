/- Contracts: which events are right, which steps are valid at a minute. Contract: which steps are valid at a minute (tune.ValidAt). The inspection in memory; office.begin, lastScan, lastEvent. -/
import Derived.Test.YtmdbpkomanhpoaaGreatDoorZqOtE
import Derived.Test.YtmdbpkomanhpoaaGreatDoorZqOcE
import Derived.Test.YtmdbpkomanhpoaaGreatDoorZqOdD
import Derived.Test.YtmdbpkomanhpoaaGreatDoorZqOsY
import Derived.Test.YtmdbpkomanhpoaaGreatDoorZqCvV
namespace Go.Proofs.YtmdbpkomanhpoaaGreatDoor
open Go.RowKit

set_option maxRecDepth 100000 in
set_option maxHeartbeats 1000000 in
theorem checkEvents_any (l : List St) (A : Option Addr) (c B : Nat) (evs : List Ev) (AE : Option Addr) (ce : Nat) (w : World) (hl : StOk l A c B w) (hR : Row w B 3 AE evs.length (rowsC evF evs)) :
    Calls Tryz.prog 93 #[.slice A l.length c, .slice AE evs.length ce] w fun e w' => e = .returned (.tuple #[.int .i64 (followE l evs).1, .int .i64 (followE l evs).2]) ∧ Below w.heap.size w w' := by
  have HC := Lib.hid (follow_any l A c B evs AE ce w hl hR)
  clear hl hR
  go_enter Tryz.func93, Tryz.ntmps93
  go_wp2_with fail
  refine HC.out.mono ?_
  rintro e w1 ⟨hF, hB1⟩
  rcases hF with ⟨_, rfl⟩ | ⟨hz, _, _, bk, base, g, cap, _, rfl, _⟩
  · go_wp2
    go_ret2
    exact ⟨rfl, hB1⟩
  · have HZ := Lib.hid hz; clear hz
    go_wp2
    go_ret2
    exact ⟨by rw [HZ.out]; rfl, hB1⟩

/-- The error of a minute behind events. -/
def minE (evs : List Ev) (m : Int) : Int := if wi m 0 100000000 = false then 2 else if prevB (evs.getLast?.map (·.mi)) m = true then 9 else 0
def atE (l : List St) (evs : List Ev) (m : Int) : Int := if (followE l evs).2 = 0 then minE evs m else (followE l evs).2
def AtR (l : List St) (A : Option Addr) (c B : Nat) (evs : List Ev) (m : Int) (N : Nat) (e : Ending) (w' : World) : Prop :=
  (atE l evs m ≠ 0 ∧ e = .returned (.tuple #[.pointer none, .int .i64 (atE l evs m)])) ∨
  (atE l evs m = 0 ∧ followE l evs = (0, 0) ∧ StRight l ∧ (∀ a ∈ bookL l evs, 0 ≤ a.mi ∧ a.mi ≤ 100000000) ∧ ∃ bk base g cap, N ≤ base ∧ e = .returned (.tuple #[.pointer (some ⟨bk, 0, none⟩), .int .i64 0]) ∧ BkOk l A c B bk base g cap (bookL l evs) w')
theorem AtR.bad {l : List St} {A : Option Addr} {c B : Nat} {evs : List Ev} {m : Int} {N : Nat} {w' : World} {e : Int} (h : atE l evs m = e) (he : e ≠ 0) : AtR l A c B evs m N (.returned (.tuple #[.pointer none, .int .i64 e])) w' := .inl ⟨by rw [h]; exact he, by rw [h]⟩

set_option maxRecDepth 100000 in
set_option maxHeartbeats 4000000 in
theorem at_any (l : List St) (A : Option Addr) (c B : Nat) (evs : List Ev) (AE : Option Addr) (ce : Nat) (m : Int) (w : World) (hl : StOk l A c B w) (hR : Row w B 3 AE evs.length (rowsC evF evs)) (hn : evs.length ≤ 1000000) :
    Calls Tryz.prog 133 #[.slice A l.length c, .slice AE evs.length ce, .int .i64 m] w fun e w' => AtR l A c B evs m w.heap.size e w' ∧ Below w.heap.size w w' := by
  have HC := Lib.hid (follow_any l A c B evs AE ce w hl hR)
  have HR := Lib.hid hR; have hB := hl.base
  clear hl hR
  go_enter Tryz.func133, Tryz.ntmps133
  go_wp2_with fail
  refine HC.out.mono ?_
  rintro e w1 ⟨hF, hB1⟩
  rcases hF with ⟨hz, rfl⟩ | ⟨hz, hrt, hmi, bk, base, g, cap, hbs, rfl, hbk⟩
  · have HX : Hid (atE l evs m = (followE l evs).2) := Lib.hid (by unfold atE; rw [if_neg hz])
    obtain ⟨u, hu⟩ : ∃ u, followE l evs = u := ⟨_, rfl⟩
    rw [hu] at HX hz ⊢
    clear hu
    obtain ⟨ui, ue⟩ := u
    dsimp only at hz HX ⊢
    have hz1 : (ue != 0) = true := by simpa using hz
    have HZ := Lib.hid hz; clear hz
    go_wp2
    go_ret2
    exact ⟨AtR.bad HX.out HZ.out, hB1⟩
  · have HA : Hid (atE l evs m = minE evs m) := Lib.hid (by unfold atE; rw [if_pos (by rw [hz])])
    have HZ := Lib.hid hz; clear hz
    have HK : Hid (atE l evs m = 0 → AtR l A c B evs m w.heap.size (.returned (.tuple #[.pointer (some ⟨bk, 0, none⟩), .int .i64 0])) w1) := Lib.hid fun h => .inr ⟨h, HZ.out, hrt, hmi, bk, base, g, cap, hbs, rfl, hbk⟩
    clear hbk hrt hmi
    cases q1 : wi m 0 100000000
    · have HX : Hid (atE l evs m = 2) := Lib.hid (by rw [HA.out]; unfold minE; rw [if_pos q1])
      go_wp2_with (go_at_call 121; refine (tnWithin_any _ _ _ _).mono ?_; rw [q1]; rintro e w1 ⟨rfl, rfl⟩)
      go_ret2
      exact ⟨AtR.bad HX.out (by decide), hB1⟩
    rcases Nat.eq_zero_or_pos evs.length with h0 | h0
    · have HX : Hid (atE l evs m = 0) := Lib.hid (by rw [HA.out]; unfold minE; rw [if_neg (by simp [q1]), List.eq_nil_of_length_eq_zero h0]; rfl)
      have HK2 := Lib.hid (HK.out HX.out)
      have h1 : evs = [] := List.eq_nil_of_length_eq_zero h0
      clear HK HA HZ HC
      subst h1
      clear HX h0
      go_wp2_with (go_at_call 121; refine (tnWithin_any _ _ _ _).mono ?_; rw [q1]; rintro e w1 ⟨rfl, rfl⟩)
      go_ret2
      exact ⟨HK2.out, hB1⟩
    · obtain ⟨j, hj⟩ : ∃ j, evs.length = j + 1 := ⟨evs.length - 1, by omega⟩
      have hjl : j < evs.length := by omega
      obtain ⟨g', o', hA', hg', p0, _, _⟩ := (HR.out.below hB1 hB).at3 evF_len hjl rfl
      have hlast : evs.getLast?.map (·.mi) = some evs[j].mi := by
        rw [List.getLast?_eq_getElem?, hj, Nat.add_sub_cancel, List.getElem?_eq_getElem hjl]; rfl
      have HM : Hid (atE l evs m = if m < evs[j].mi then 9 else 0) := Lib.hid (by
        rw [HA.out]; unfold minE; rw [if_neg (by simp [q1]), hlast]
        show (if decide (m < evs[j].mi) = true then _ else _) = _
        simp only [decide_eq_true_eq])
      generalize evs[j].mi = pm at *
      clear hlast HA
      subst hA'
      have hj1 : ((evs.length : Nat) : Int) - 1 = (j : Int) := by omega
      have hj2 : (j : Int) < (evs.length : Int) := by omega
      have hj3 : (0 : Int) ≤ (j : Int) := by omega
      have hj4 : (0 : Int) < (evs.length : Int) := by omega
      have HJ := Lib.hid hj; clear hj
      by_cases q2 : m < pm
      · have HX : Hid (atE l evs m = 9) := Lib.hid (by rw [HM.out, if_pos q2])
        go_wp2_with (go_at_call 121; refine (tnWithin_any _ _ _ _).mono ?_; rw [q1]; rintro e w1 ⟨rfl, rfl⟩)
        go_ret2
        exact ⟨AtR.bad HX.out (by decide), hB1⟩
      · have HK2 := Lib.hid (HK.out (by rw [HM.out, if_neg q2]))
        go_wp2_with (go_at_call 121; refine (tnWithin_any _ _ _ _).mono ?_; rw [q1]; rintro e w1 ⟨rfl, rfl⟩)
        go_ret2
        exact ⟨HK2.out, hB1⟩
end Go.Proofs.YtmdbpkomanhpoaaGreatDoor

namespace Go.Proofs.YtmdbpkomanhpoaaGreatDoor
open Go.RowKit

theorem infoB : (Tryz.prog.info? 4).map (fun i => (i.zero, i.size, i.bytes)) = some (some (.bool false), 1, 1) := by kernel_rfl
/-- Which steps are valid. -/
def validL (l : List St) (evs : List Ev) (m : Int) : List Bool := (List.range l.length).map fun i => validV l (bookL l evs) i m
def boolC (l : List Bool) : List Value := l.map .bool
/-- What ValidAt tells. -/
def ValidR (l : List St) (evs : List Ev) (m : Int) (N : Nat) (e : Ending) (w' : World) : Prop :=
  (atE l evs m ≠ 0 ∧ e = .returned (.tuple #[.slice none 0 0, .int .i64 (atE l evs m)])) ∨
  (atE l evs m = 0 ∧ ∃ v, e = .returned (.tuple #[v, .int .i64 0]) ∧ w'.ownsRow N 4 1 v l.length (boolC (validL l evs m)))

set_option maxRecDepth 100000 in
set_option maxHeartbeats 4000000 in
theorem validAt_any (l : List St) (A : Option Addr) (c B : Nat) (evs : List Ev) (AE : Option Addr) (ce : Nat) (m : Int) (w : World) (hl : StOk l A c B w) (hR : Row w B 3 AE evs.length (rowsC evF evs)) (hn : evs.length ≤ 1000000) :
    Calls Tryz.prog 95 #[.slice A l.length c, .slice AE evs.length ce, .int .i64 m] w fun e w' => ValidR l evs m w.heap.size e w' ∧ Below w.heap.size w w' := by
  obtain ⟨i0, hi, hz0, hz1, hz2⟩ := info_parts infoB
  have HC := Lib.hid (at_any l A c B evs AE ce m w hl hR hn)
  clear hl hR
  go_enter Tryz.func95, Tryz.ntmps95
  go_wp2_with fail
  refine HC.out.mono ?_
  rintro e w1 ⟨hF, hB1⟩
  rcases hF with ⟨hz, rfl⟩ | ⟨hz, hfo, hrt, hmi, bk, base, g, cap, hbs, rfl, hbk⟩
  · have HX : Hid (ValidR l evs m w.heap.size (.returned (.tuple #[.slice none 0 0, .int .i64 (atE l evs m)])) w1) := Lib.hid (.inl ⟨hz, rfl⟩)
    obtain ⟨u, hu⟩ : ∃ u, atE l evs m = u := ⟨_, rfl⟩
    rw [hu] at HX hz ⊢
    clear hu
    have hz1 : (u != 0) = true := by simpa using hz
    have HZ := Lib.hid hz; clear hz
    go_wp2
    go_ret2
    exact ⟨HX.out, hB1⟩
  · have HZ := Lib.hid hz; clear hz hfo
    have hwid := hbk.wid
    have HBK := Lib.hid hbk; have HRT := Lib.hid hrt; have HMI := Lib.hid hmi
    clear hbk hrt hmi
    go_wp2
    go_loopw [10, 24] (fun v i wr => ∃ k : Nat, k ≤ l.length ∧ i = .int .i64 k ∧ Hid (wr.ownsRow w1.heap.size 4 1 v k (boolC ((validL l evs m).take k))) ∧ Below w1.heap.size w1 wr) (fun _ i _ => l.length - (intOf i).toNat)
    case atStart => exact ⟨0, Nat.zero_le _, rfl, Lib.hid (World.ownsRow_nil _ _ _ _), Below.refl _ _⟩
    case round =>
      obtain ⟨k, hk, rfl, HO, hBr⟩ := hrel
      rename World => wo
      by_cases hkl : k < l.length
      · have hv := valid_any l A c B bk base g cap (bookL l evs) HRT HMI k m wo hkl (HBK.out.gr hBr)
        have hvl : (validL l evs m).length = l.length := by unfold validL; simp
        have HTK : Hid ((validL l evs m).take (k + 1) = (validL l evs m).take k ++ [validV l (bookL l evs) k m]) := Lib.hid (by
          rw [List.take_succ_eq_append_getElem (by rw [hvl]; exact hkl)]
          congr 2
          unfold validL
          rw [List.getElem_map, List.getElem_range])
        obtain ⟨T, hT⟩ : ∃ T, validV l (bookL l evs) k m = T := ⟨_, rfl⟩
        rw [hT] at hv HTK
        have HV := Lib.hid hv
        clear hv hT hvl
        go_wp2_with fail
        refine HV.out.mono ?_
        rintro e w2 ⟨rfl, hB2⟩
        have hBw := hBr.trans (hB2.mono (Below.size hBr))
        have ow := (own_below HO.out hB2).alloc (.cells #[.bool T] 4 (0, 0))
        have bn := Blk.new w2 4 #[.bool T]
        have hS : Src (w2.alloc (.cells #[.bool T] 4)) 1 (some ⟨w2.heap.size, 0, none⟩) 1 1 [.bool T] := Src.mk (B := w2.heap.size + 1) ⟨rfl, fun _ => ⟨w2.heap.size, 0, rfl, by omega, fun j u hu => by rw [Nat.zero_add, bn.cell j, List.getElem?_toArray]; exact hu⟩⟩ (fun e => by cases e)
        have HS := Lib.hid hS
        have hsz := Below.size hBw
        clear hB2 hS bn
        go_wp2_with (at_builtin; refine wpList_append_row rfl _ _ 171 rfl w1.heap.size 4 i0 (.bool false) 1 1 Tryz.underlying171 hi hz0 hz1 hz2 rfl (by decide) _ _ _ rfl ow (some ⟨w2.heap.size, 0, none⟩) 1 1 [.bool T] rfl HS.out (by simp [Value.oneCell']) (by unfold maxLen; omega) (by omega) (by simp; omega) ?_)
        intro v3 w3 own3 hgrow _
        have hB3 : Below w1.heap.size w1 w3 := below_own (hBw.alloc hsz _) (Nat.le_refl _) ow hgrow
        have HO3 : Hid (w3.ownsRow w1.heap.size 4 1 v3 (k + 1) (boolC ((validL l evs m).take (k + 1)))) := Lib.hid (by rw [HTK.out]; unfold boolC; rw [List.map_append]; exact own3)
        go_wp2
        refine ⟨⟨k + 1, by omega, by go_num, HO3, hB3⟩, by simp [intOf]; omega⟩
      · obtain rfl : k = l.length := by omega
        have HX : Hid (∀ v, wo.ownsRow w1.heap.size 4 1 v l.length (boolC ((validL l evs m).take l.length)) → ValidR l evs m w.heap.size (.returned (.tuple #[v, .int .i64 0])) wo) := Lib.hid fun v hv => .inr ⟨HZ.out, v, rfl, by
          rw [List.take_of_length_le (by unfold validL; simp)] at hv
          exact hv.mono hB1.size⟩
        have HX2 := Lib.hid (HX.out _ HO.out)
        go_wp2
        go_ret2
        exact ⟨HX2.out, hB1.trans (hBr.mono hB1.size)⟩
end Go.Proofs.YtmdbpkomanhpoaaGreatDoor

namespace Go.Proofs.YtmdbpkomanhpoaaGreatDoor
open Go.RowKit Go.Lib

/-- A scan. -/
structure Sc where
  mi : Int
  po : Int
  vo : Bool
def scF (x : Sc) : List Value := [.int .i64 x.mi, .int .i64 x.po, .bool x.vo]
theorem scF_len (x : Sc) : (scF x).length = 3 := rfl
/-- A mark. -/
structure Mk where
  nm : ByteArray
  bb : ByteArray
  po : Int
  q : Nat → Int
  sta : Int
  row : Int
  dec : Int
  sec : ByteArray
abbrev mkC (x : Mk) : Array Value := #[.string x.nm, .string x.bb, .int .i64 x.po, .int .i64 (x.q 0), .int .i64 (x.q 1), .int .i64 (x.q 2), .int .i64 (x.q 3), .int .i64 (x.q 4), .int .i64 (x.q 5), .int .i64 x.sta, .int .i64 x.row, .int .i64 x.dec, .string x.sec]
def mkF (x : Mk) : List Value := [.string x.nm, .string x.bb, .int .i64 x.po, .int .i64 (x.q 0), .int .i64 (x.q 1), .int .i64 (x.q 2), .int .i64 (x.q 3), .int .i64 (x.q 4), .int .i64 (x.q 5), .int .i64 x.sta, .int .i64 x.row, .int .i64 x.dec, .string x.sec]
theorem mkF_len (x : Mk) : (mkF x).length = 13 := rfl
/-- The state of an inspection. -/
structure In where
  ev : List Ev
  sc : List Sc
  ms : List Mk
  cl : Bool
def in0 : In := ⟨[], [], [], false⟩
/-- Where its lists lie. -/
structure Ia where
  eA : Option Addr
  ec : Nat
  sA : Option Addr
  sc : Nat
  mA : Option Addr
  mc : Nat
abbrev inC (s : Se) (m : Me) (a : Ia) (st : In) : Array Value := #[.slice m.pA s.pe.length m.pc, .string s.cd.nm, .slice m.eA s.cd.ex.length m.ec, .slice m.rA s.cd.rows.length m.rc, .int .i64 s.thick, .slice m.sA s.st.length m.sc, .int .i64 s.tk.frm, .int .i64 s.tk.til, .int .i64 s.tk.slip, .int .i64 s.tk.reach, .int .i64 s.gf, .int .i64 s.gt, .slice m.lA s.lv.length m.lc, .slice a.eA st.ev.length a.ec, .slice a.sA st.sc.length a.sc, .slice a.mA st.ms.length a.mc, .bool st.cl]
structure InLim (st : In) : Prop where
  ev : st.ev.length ≤ 60
  sc : st.sc.length ≤ 200
  ms : st.ms.length ≤ 10
  pos : ∀ x ∈ st.sc, 0 ≤ x.mi ∧ x.mi ≤ 100000000 ∧ -2000000 ≤ x.po ∧ x.po ≤ 2000000
theorem lim0 : InLim in0 := ⟨by decide, by decide, by decide, fun x h => by cases h⟩
/-- An inspection in memory. -/
structure Isp (s : Se) (m : Me) (B base bx : Nat) (a : Ia) (st : In) (w : World) : Prop where
  set : SeOk s m B w
  blk : Blk w bx 74 (inC s m a st)
  ev : w.ownsRow base 166 3 (.slice a.eA st.ev.length a.ec) st.ev.length (rowsC evF st.ev)
  sc : w.ownsRow base 140 3 (.slice a.sA st.sc.length a.sc) st.sc.length (rowsC scF st.sc)
  ms : w.ownsRow base 95 13 (.slice a.mA st.ms.length a.mc) st.ms.length (rowsC mkF st.ms)
  le : B ≤ base
  lo : base ≤ bx
  lim : InLim st
theorem Isp.below {s : Se} {m : Me} {B base bx C : Nat} {a : Ia} {st : In} {w w' : World} (h : Isp s m B base bx a st w) (hb : Below C w w') (hC : w.heap.size ≤ C) : Isp s m B base bx a st w' :=
  ⟨h.set.below hb (by have := h.set.base; omega), h.blk.below hb (by have := h.blk.lt; omega), own_below h.ev (hb.mono hC), own_below h.sc (hb.mono hC), own_below h.ms (hb.mono hC), h.le, h.lo, h.lim⟩
theorem blk17 {w : World} {g t : Nat} {v0 v1 v2 v3 v4 v5 v6 v7 v8 v9 v10 v11 v12 v13 v14 v15 v16 : Value} (h : Blk w g t #[v0, v1, v2, v3, v4, v5, v6, v7, v8, v9, v10, v11, v12, v13, v14, v15, v16]) : w.cell? ⟨g, 0, none⟩ = some v0 ∧ w.cell? ⟨g, 1, none⟩ = some v1 ∧ w.cell? ⟨g, 2, none⟩ = some v2 ∧ w.cell? ⟨g, 3, none⟩ = some v3 ∧ w.cell? ⟨g, 4, none⟩ = some v4 ∧ w.cell? ⟨g, 5, none⟩ = some v5 ∧ w.cell? ⟨g, 6, none⟩ = some v6 ∧ w.cell? ⟨g, 7, none⟩ = some v7 ∧ w.cell? ⟨g, 8, none⟩ = some v8 ∧ w.cell? ⟨g, 9, none⟩ = some v9 ∧ w.cell? ⟨g, 10, none⟩ = some v10 ∧ w.cell? ⟨g, 11, none⟩ = some v11 ∧ w.cell? ⟨g, 12, none⟩ = some v12 ∧ w.cell? ⟨g, 13, none⟩ = some v13 ∧ w.cell? ⟨g, 14, none⟩ = some v14 ∧ w.cell? ⟨g, 15, none⟩ = some v15 ∧ w.cell? ⟨g, 16, none⟩ = some v16 ∧ ∀ i, w.frozen? ⟨g, i, none⟩ = false := ⟨h.cell 0, h.cell 1, h.cell 2, h.cell 3, h.cell 4, h.cell 5, h.cell 6, h.cell 7, h.cell 8, h.cell 9, h.cell 10, h.cell 11, h.cell 12, h.cell 13, h.cell 14, h.cell 15, h.cell 16, h.frozen⟩

set_option maxRecDepth 100000 in
set_option maxHeartbeats 4000000 in
theorem begin_any (s : Se) (m : Me) (B : Nat) (w : World) (hs : SeOk s m B w) (hQ : Quant w) :
    Calls Tryz.prog 38 #[.agg (seC s m)] w fun e w' => (((setupE' s).2 ≠ 0 ∧ e = .returned (.tuple #[.pointer none, .int .i64 (setupE' s).2])) ∨ ((setupE' s).2 = 0 ∧ ∃ bx, w.heap.size ≤ bx ∧ e = .returned (.tuple #[.pointer (some ⟨bx, 0, none⟩), .int .i64 0]) ∧ Isp s m B w.heap.size bx ⟨none, 0, none, 0, none, 0⟩ in0 w')) ∧ Below w.heap.size w w' := by
  have hb := hs.base
  have b0 := Blk.new w 33 (seC s m)
  have hB0 : Below w.heap.size w (w.alloc (.cells (seC s m) 33)) := (by repeat (first | (with_reducible exact Below.refl _ _) | (with_reducible assumption) | ((with_reducible refine Below.setCell ?_ ?_ _); rotate_left; · (first | exact Nat.le_refl _ | (simp; done) | (simp; omega) | omega)) | ((with_reducible refine Below.alloc ?_ ?_ _); rotate_left; · (first | exact Nat.le_refl _ | (simp; done) | (simp; omega) | omega)) | (with_reducible apply Below.drew) | (with_reducible apply below_drewN') | (refine Below.trans ?_ (Below.mono (by assumption) (by first | exact Nat.le_refl _ | (simp; done) | (simp; omega) | omega))) | exact Below.refl _ _ | assumption))
  have HC := Lib.hid (checkSetup_any' s m B _ (hs.below hB0 hb) (hQ.below hB0 (Nat.le_refl _)))
  have HS := Lib.hid hs; clear hs hQ
  go_enter Tryz.func38, Tryz.ntmps38
  go_wp2_with fail
  refine HC.out.mono ?_
  rintro e w1 ⟨rfl, hB1⟩
  have hBB : Below w.heap.size w w1 := hB0.trans (hB1.mono (by simp))
  have b1 := b0.below hB1 b0.lt
  obtain ⟨c0, c1, c2, c3, c4, c5, c6, c7, c8, c9, c10, c11, c12, cf⟩ := blk13 b1
  have l1 := b1.lt
  by_cases h0 : (setupE' s).2 = 0
  · have h1 : ((setupE' s).2 != 0) = false := by simpa using h0
    have H0 := Lib.hid h0; clear h0
    go_wp2
    go_ret2
    refine ⟨.inr ⟨H0.out, w1.heap.size, by omega, rfl, ⟨HS.out.below (hBB.alloc (Nat.le_of_lt l1) _) hb, Blk.new _ _ _, World.ownsRow_nil _ _ _ _, World.ownsRow_nil _ _ _ _, World.ownsRow_nil _ _ _ _, hb, by omega, lim0⟩⟩, hBB.alloc (Nat.le_of_lt l1) _⟩
  · have h1 : ((setupE' s).2 != 0) = true := by simpa using h0
    have H0 := Lib.hid h0; clear h0
    go_wp2
    go_ret2
    exact ⟨.inl ⟨H0.out, rfl⟩, hBB⟩
end Go.Proofs.YtmdbpkomanhpoaaGreatDoor
