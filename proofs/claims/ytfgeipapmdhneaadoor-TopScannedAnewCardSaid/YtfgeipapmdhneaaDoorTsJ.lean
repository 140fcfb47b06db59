/- Contract: trace.Frames of frames of zeros, cut somewhere. -/
import Derived.Test.YtfgeipapmdhneaaDoorTsK
namespace Go.Proofs.YtfgeipapmdhneaaDoor
open Go.RowKit Go.Lib Go.Shelf

/-- The cells of frames at the places ps. -/
def frC : List Int → List Value → List Value
  | p :: ps, v :: vs => .int .i64 p :: .int .i64 1 :: v :: frC ps vs
  | _, _ => []
theorem frC_length : ∀ (ps : List Int) (vs : List Value), ps.length = vs.length → (frC ps vs).length = 3 * ps.length
  | [], [], _ => rfl
  | p :: ps, v :: vs, h => by simp only [frC, List.length_cons, frC_length ps vs (by simpa using h)]; omega
theorem frC_snoc : ∀ (ps : List Int) (vs : List Value) (p : Int) (v : Value), ps.length = vs.length → frC (ps ++ [p]) (vs ++ [v]) = frC ps vs ++ [.int .i64 p, .int .i64 1, v]
  | [], [], p, v, _ => rfl
  | q :: ps, u :: vs, p, v, h => by simp only [List.cons_append, frC, frC_snoc ps vs p v (by simpa using h)]
theorem frames_head {ps : List Int} {k L : Nat} (hk : k < ps.length) (hL : 4 ≤ L) : ∃ t, (framesB (ps.drop k)).take L = 67 :: 80 :: 1 :: 1 :: t := by
  rw [List.drop_eq_getElem_cons hk]
  obtain ⟨r, hr⟩ := frame_begin ps[k]
  have e : framesB (ps[k] :: ps.drop (k + 1)) = frameB ps[k] ++ framesB (ps.drop (k + 1)) := by unfold framesB; rw [List.map_cons, List.flatten_cons]
  rw [e, hr]
  obtain ⟨m, rfl⟩ : ∃ m, L = m + 4 := ⟨L - 4, by omega⟩
  exact ⟨(r ++ framesB (ps.drop (k + 1))).take m, rfl⟩

theorem results3 {R : Ending → World → Prop} {w : World} {tmps : Array Value} (h : R (.returned (.tuple #[tmps.getD 2 undef, tmps.getD 3 undef, tmps.getD 4 undef])) w) : bodyPost Tryd.prog Tryd.f8 R Exit.ret { tmps := tmps, defers := [] } w :=
  bodyPost_ret (v := .tuple #[tmps.getD 2 undef, tmps.getD 3 undef, tmps.getD 4 undef]) (by simp [results, Tryd.results8, go_sem]) rfl h
set_option maxRecDepth 100000 in
set_option maxHeartbeats 1000000 in
theorem frames_any (s : ByteArray) (ps : List Int) (cut : Nat) (h : s.data.toList = (framesB ps).take cut) (hc : cut ≤ 138 * ps.length) (hp : ∀ p ∈ ps, -1000000000 ≤ p ∧ p ≤ 1000000000) (hn : ps.length ≤ 6) (w : World) :
    Calls Tryd.prog 8 #[.string s] w fun e w' => ∃ v vs, e = .returned (.tuple #[v, .int .i64 (138 * ((cut / 138 : Nat) : Int)), .int .i64 0]) ∧ vs.length = cut / 138 ∧ w'.ownsRow w.heap.size 35 3 v (cut / 138) (frC (ps.take (cut / 138)) vs) ∧ Below w.heap.size w w' := by
  have hsz : s.size = cut := by
    have h1 : s.data.toList.length = cut := by rw [h, List.length_take, framesB_length]; omega
    simpa using h1
  have hI : (s.size : Int) = (cut : Int) := by omega
  have hbig : ¬ (100000 : Int) < (cut : Int) := by omega
  have H := Lib.hid (And.intro h hp)
  obtain ⟨i0, hi, hz0, hz1, hz2⟩ := info_parts (infoTF)
  clear h hp
  go_enter Tryd.func8, Tryd.ntmps8
  go_wp2_with fail
  go_loopw [5, 6] (fun s5 s6 wr => ∃ (k : Nat) (vs : List Value), s6 = .int .i64 (138 * (k : Int)) ∧ 138 * k ≤ cut ∧ vs.length = k ∧ wr.ownsRow w.heap.size 35 3 s5 k (frC (ps.take k) vs) ∧ Below w.heap.size w wr) (fun _ s6 _ => cut - (RowKit.intOf s6).toNat)
  case atStart => exact ⟨0, [], rfl, Nat.zero_le _, rfl, World.ownsRow_nil _ _ _ _, Below.refl _ _⟩
  case round =>
    obtain ⟨k, vs, rfl, hk, hv, hown, hB⟩ := hrel
    obtain ⟨r, hr⟩ : ∃ r, s.extract (138 * k) cut = r := ⟨_, rfl⟩
    have hrd : r.data.toList = (framesB (ps.drop k)).take (cut - 138 * k) := by
      have h1 : (s.extract (138 * k) cut).data.toList = ((s.data.toList).drop (138 * k)).take (cut - 138 * k) := by simp only [ByteArray.data_extract, Array.toList_extract, List.extract_eq_take_drop]
      rw [← hr, h1, H.out.1, frames_rest hk hc, List.take_take, Nat.min_self]
    have hrs : r.size = cut - 138 * k := by rw [← hr]; simp; omega
    have hlI : (138 * (k : Int)) ≤ (cut : Int) := by omega
    have hlI0 : 0 ≤ 138 * (k : Int) := by omega
    have hkN : (138 * (k : Int)).toNat = 138 * k := by omega
    have hown2 := Lib.hid hown
    have hB2 := Lib.hid hB
    clear hown hB
    go_upto_region 6 with fail
    obtain ⟨L, hL⟩ : ∃ L, cut = 138 * k + L := ⟨cut - 138 * k, by omega⟩
    have HL := Lib.hid hL
    have hrs2 : r.size = L := by omega
    have hrI : (r.size : Int) = (L : Int) := by omega
    rw [show cut - 138 * k = L by omega] at hrd
    have HR := Lib.hid (And.intro hrd hr)
    clear hr hrd hrs
    by_cases h8 : L < 8
    · have h8I : (L : Int) < 8 := by omega
      have hkc : cut / 138 = k := by omega
      clear hL
      go_wp2_with fail
      rw [hkc]
      refine results3 ?_
      exact ⟨_, vs, rfl, hv, hown2.out, hB2.out⟩
    · have h8I : ¬ (L : Int) < 8 := by omega
      have hkp : k < ps.length := by omega
      obtain ⟨t, ht⟩ := frames_head (L := L) hkp (by omega)
      rw [← HR.out.1] at ht
      have i3 : (3 : Int) < (L : Int) := by omega
      have g3 : (r[3]'(by omega)) = 1 := by
        have h1 : (r.data.toList)[3]'(by rw [ht]; simp) = 1 := by simp [ht]
        exact h1
      have HT := Lib.hid ht
      clear ht
      by_cases h138 : L < 138
      · have hlt : (L : Int) < 138 := by omega
        have hkc : cut / 138 = k := by omega
        have HE : Hid (r.extract 0 (min (L : Int) 138).toNat = r) := Lib.hid (by
          rw [show (min (L : Int) 138).toNat = r.size by omega]
          simp)
        have HS := Lib.hid (parseFrame_short (r.extract 0 (min (L : Int) 138).toNat) t (by rw [HE.out]; exact HT.out) (by rw [HE.out]; omega) (by rw [HE.out]; omega))
        clear hL
        go_wp2_with (first
          | (go_at_call 22; refine (frameSize_any _).mono ?_; rintro e w2 ⟨rfl, rfl⟩)
          | (go_at_call 21; refine (HS.out _).mono ?_; rintro e w3 ⟨rfl, hB3⟩))
        rw [hkc]
        have hBB := (hB3.alloc (Below.size hB3) (.cells #[.int .i64 0, .int .i64 0, .slice none 0 0] 35))
        refine results3 ?_
        exact ⟨_, vs, rfl, hv, own_gr hown2.out hBB, hB2.out.trans (hBB.mono (Below.size hB2.out))⟩
      · have hlt : ¬ (L : Int) < 138 := by omega
        have HE : Hid ((r.extract 0 (min (L : Int) 138).toNat).data.toList = frameB ps[k]) := Lib.hid (by
          rw [show (min (L : Int) 138).toNat = 138 by omega]
          have h1 : (r.extract 0 138).data.toList = (r.data.toList).take 138 := by simp only [ByteArray.data_extract, Array.toList_extract, List.extract_eq_take_drop, List.drop_zero, Nat.sub_zero]
          rw [h1, HR.out.1, List.take_take, Nat.min_eq_left (by omega), frames_first hkp (by omega), List.take_of_length_le (by rw [frameB_length]; omega)])
        have HS := Lib.hid (parseFrame_whole (r.extract 0 (min (L : Int) 138).toNat) ps[k] HE.out (H.out.2 _ (List.getElem_mem hkp)))
        clear hL
        go_wp2_with (first
          | (go_at_call 22; refine (frameSize_any _).mono ?_; rintro e w2 ⟨rfl, rfl⟩)
          | (go_at_call 21; refine (HS.out _).mono ?_; rintro e w3 ⟨⟨A, c, rfl⟩, hB3⟩))
        have hzp := Below.size hB3
        have z := Blk.new w3 35 #[.int .i64 ps[k], .int .i64 1, .slice A 64 c]
        have hB9 := hB3.alloc (Below.size hB3) (.cells #[.int .i64 ps[k], .int .i64 1, .slice A 64 c] 35)
        have own9 := own_gr hown2.out hB9
        have hfb : u5.ownBlock ≠ some w3.heap.size := fun e => by have := (hown2.out.lt _ e).2; omega
        have hw9 : w.heap.size ≤ w2.heap.size := Below.size hB2.out
        have HB9 := Lib.hid hB9
        refine frReg9 z own9 hfb (Nat.le_trans hw9 (Below.size hB9)) (by omega) _ ?_
        intro t34 t35 t36 t37 t38 t39 t40 t41 t42 t43 v w9 hown9 hB10
        clear z own9 hfb hB9
        go_wp2_with fail
        have hL := HL.out
        go_roundw
        case rel =>
          refine ⟨k + 1, vs ++ [.slice A 64 c], by congr 1, by omega, by simp [hv], ?_, hB2.out.trans ((HB9.out.mono hw9).trans hB10)⟩
          rw [← List.take_append_getElem hkp, frC_snoc _ _ _ _ (by rw [List.length_take]; omega)]
          exact hown9
        case measure =>
          have hL := HL.out
          show cut - (138 * (k : Int) + 138).toNat < cut - (138 * (k : Int)).toNat
          omega
end Go.Proofs.YtfgeipapmdhneaaDoor
