/- Contracts: office.numbers, code.ParseMark. Contract: a mark read (code.ParseMark). -/
import Derived.Test.YtmdbpkomanhpoaaGreatDoorZqOdA
import Derived.Test.YtmdbpkomanhpoaaGreatDoorZqOcB
import Derived.Test.YtmdbpkomanhpoaaGreatDoorZqCvF
namespace Go.Proofs.YtmdbpkomanhpoaaGreatDoor
open Go.RowKit Go.Lib

/-- The numbers of words. -/
def numsO (ws : List ByteArray) : Bool := ws.all fun s => (numL 9 s.data.toList).isSome
def numsOf (ws : List ByteArray) : List Int := ws.map fun s => (numL 9 s.data.toList).getD 0
def NumsR (ws : List ByteArray) (N : Nat) (e : Ending) (w' : World) : Prop :=
  (numsO ws = false ∧ e = .returned (.tuple #[.slice none 0 0, .bool false])) ∨ (numsO ws = true ∧ ∃ v, e = .returned (.tuple #[v, .bool true]) ∧ w'.ownsRow N 3 1 v ws.length (intsC (numsOf ws)))
theorem all_take_snoc' {α : Type} (l : List α) {k : Nat} (h : k < l.length) (q : α → Bool) : (l.take (k + 1)).all q = ((l.take k).all q && q l[k]) := by
  rw [List.take_succ_eq_append_getElem h, List.all_append]; simp
theorem strRow_at {w : World} {B : Nat} {A : Option Addr} {ws : List ByteArray} (h : Row w B 1 A ws.length (strsC ws)) {k : Nat} (hk : k < ws.length) : ∃ g o, A = some ⟨g, o, none⟩ ∧ g < B ∧ w.cell? ⟨g, o + k, none⟩ = some (.string ws[k]) := by
  obtain ⟨g, o, hA, hb, hc⟩ := h.2 (by omega)
  exact ⟨g, o, hA, hb, hc k _ (by simp [strsC, hk])⟩

set_option maxRecDepth 100000 in
set_option maxHeartbeats 4000000 in
theorem numbers_any (ws : List ByteArray) (A : Option Addr) (c B : Nat) (w : World) (hR : Row w B 1 A ws.length (strsC ws)) (hB : B ≤ w.heap.size) (hn : ws.length ≤ 1000000) (hs : ∀ s ∈ ws, s.size ≤ 100000) (hL : LibW w) :
    Calls Tryz.prog 89 #[.slice A ws.length c] w fun e w' => NumsR ws w.heap.size e w' ∧ Below w.heap.size w w' := by
  obtain ⟨i0, hi, hz0, hz1, hz2⟩ := info_parts infoI
  have HR := Lib.hid hR; have HL := Lib.hid hL; have HS := Lib.hid hs; clear hR hL hs
  go_enter Tryz.func89, Tryz.ntmps89
  go_wp2
  go_loopw [4, 11] (fun v i wr => ∃ k : Nat, k ≤ ws.length ∧ i = .int .i64 k ∧ Hid ((ws.take k).all (fun s => (numL 9 s.data.toList).isSome) = true ∧ wr.ownsRow w.heap.size 3 1 v k (intsC (numsOf (ws.take k)))) ∧ Below w.heap.size w wr) (fun _ i _ => ws.length - (intOf i).toNat)
  case atStart => exact ⟨0, Nat.zero_le _, rfl, Lib.hid ⟨rfl, World.ownsRow_nil _ _ _ _⟩, Below.refl _ _⟩
  case round =>
    obtain ⟨k, hk, rfl, HO, hBr⟩ := hrel
    by_cases hlt : k < ws.length
    · obtain ⟨g, o, hA, hg, c0⟩ := strRow_at (HR.out.below hBr hB) hlt
      subst hA
      have hsz := HS.out _ (List.getElem_mem hlt)
      have HALL := Lib.hid (all_take_snoc' ws hlt (fun s => (numL 9 s.data.toList).isSome))
      have HNO : Hid ((numL 9 ws[k].data.toList).isSome = false → numsO ws = false) := Lib.hid fun h => List.all_eq_false.2 ⟨ws[k], List.getElem_mem hlt, by rw [h]; simp⟩
      have HTK : Hid (numsOf (ws.take (k + 1)) = numsOf (ws.take k) ++ [(numL 9 ws[k].data.toList).getD 0]) := Lib.hid (by rw [List.take_succ_eq_append_getElem hlt]; unfold numsOf; rw [List.map_append]; rfl)
      have HC := Lib.hid (oNumber_any ws[k] hsz _ (HL.out.below hBr (Nat.le_refl _)))
      obtain ⟨t, ht⟩ : ∃ t, numL 9 ws[k].data.toList = t := ⟨_, rfl⟩
      rw [ht] at HC HALL HNO HTK
      clear ht
      generalize ws[k] = x at *
      go_wp2_with fail
      refine HC.out.mono ?_
      rintro e w2 ⟨⟨n, b, rfl, rfl, hb⟩, hB2⟩
      have hBw := hBr.trans (hB2.mono (Below.size hBr))
      cases t with
      | none =>
        have HX : Hid (NumsR ws w.heap.size (.returned (.tuple #[.slice none 0 0, .bool false])) w2) := Lib.hid (.inl ⟨HNO.out rfl, rfl⟩)
        clear hb
        go_wp2
        go_ret2
        exact ⟨HX.out, hBw⟩
      | some v =>
        obtain rfl : n = v := hb v rfl
        have ow := (own_below HO.out.2 hB2).alloc (.cells #[.int .i64 n] 3 (0, 0))
        have bn := Blk.new w2 3 #[.int .i64 n]
        have HSR : Hid (Src (w2.alloc (.cells #[.int .i64 n] 3)) 1 (some ⟨w2.heap.size, 0, none⟩) 1 1 [.int .i64 n]) := Lib.hid (Src.mk (B := w2.heap.size + 1) ⟨rfl, fun _ => ⟨w2.heap.size, 0, rfl, by omega, fun j u hu => by rw [Nat.zero_add, bn.cell j, List.getElem?_toArray]; exact hu⟩⟩ (fun e => by cases e))
        have hsz2 := Below.size hBw
        clear bn hb hB2
        go_wp2_with (at_builtin; refine wpList_append_row rfl _ _ 107 rfl w.heap.size 3 i0 (.int .i64 0) 1 8 Tryz.underlying107 hi hz0 hz1 hz2 rfl (by decide) _ _ _ rfl ow (some ⟨w2.heap.size, 0, none⟩) 1 1 [.int .i64 n] rfl HSR.out (by simp [Value.oneCell']) (by unfold maxLen; omega) (by omega) (by simp; omega) ?_)
        intro v3 w3 own3 hgrow _
        have hB3 : Below w.heap.size w w3 := below_own (hBw.alloc hsz2 _) (Nat.le_refl _) ow hgrow
        have HO3 : Hid ((ws.take (k + 1)).all (fun s => (numL 9 s.data.toList).isSome) = true ∧ w3.ownsRow w.heap.size 3 1 v3 (k + 1) (intsC (numsOf (ws.take (k + 1))))) := Lib.hid ⟨by rw [HALL.out, HO.out.1]; rfl, by rw [HTK.out]; unfold intsC; rw [List.map_append]; exact own3⟩
        go_wp2
        refine ⟨⟨k + 1, by omega, by go_num, HO3, hB3⟩, by simp [intOf]; omega⟩
    · obtain rfl : k = ws.length := by omega
      have HX : Hid (∀ v, wr.ownsRow w.heap.size 3 1 v ws.length (intsC (numsOf (ws.take ws.length))) → NumsR ws w.heap.size (.returned (.tuple #[v, .bool true])) wr) := Lib.hid fun v hv => .inr ⟨by have := HO.out.1; rwa [List.take_length] at this, v, rfl, by rwa [List.take_length] at hv⟩
      have HX2 := Lib.hid (HX.out _ HO.out.2)
      go_wp2
      go_ret2
      exact ⟨HX2.out, hBr⟩
end Go.Proofs.YtmdbpkomanhpoaaGreatDoor

namespace Go.Proofs.YtmdbpkomanhpoaaGreatDoor
open Go.RowKit Go.Lib

/-- The mark with a text, and the error. -/
def mkOf (s : ByteArray) (i : Nat) : Int := (((cutB 32 s)[i]?.bind numC).getD 0)
def pmE (s : ByteArray) : Int := if (cutB 32 s).length = 6 then (if (cutB 32 s).all (fun x => (numC x).isSome) = true then cmE (mkOf s) else 7) else 7
def pmV (s : ByteArray) : Value := .agg (if pmE s = 0 then mkM (mkOf s) else #[.int .i64 0, .int .i64 0, .int .i64 0, .int .i64 0, .int .i64 0, .int .i64 0])
theorem pmV_ok {s : ByteArray} (h : pmE s = 0) : pmV s = .agg (mkM (mkOf s)) := by unfold pmV; rw [if_pos h]
theorem pmV_bad {s : ByteArray} (h : pmE s ≠ 0) : pmV s = .agg #[.int .i64 0, .int .i64 0, .int .i64 0, .int .i64 0, .int .i64 0, .int .i64 0] := by unfold pmV; rw [if_neg h]
def PmR (s : ByteArray) (e : Ending) : Prop := e = .returned (.tuple #[pmV s, .int .i64 (pmE s)])
theorem PmR.bad {s : ByteArray} {n : Int} (h : pmE s = n) (hn : n ≠ 0) : PmR s (.returned (.tuple #[.agg #[.int .i64 0, .int .i64 0, .int .i64 0, .int .i64 0, .int .i64 0, .int .i64 0], .int .i64 n])) := by unfold PmR; rw [pmV_bad (by rw [h]; exact hn), h]
theorem cutB_size {c : UInt8} {s x : ByteArray} (h : x ∈ cutB c s) : x.size ≤ s.size := by
  unfold cutB at h
  obtain ⟨l, hl, rfl⟩ := List.mem_map.1 h
  have := cutL_size c _ l hl
  rw [size_list] at this
  exact this
theorem blkz6 {w : World} {g t : Nat} {v0 v1 v2 v3 v4 v5 : Value} (h : Blk w g t #[v0, v1, v2, v3, v4, v5]) : w.cell? ⟨g, 0, none⟩ = some v0 ∧ w.cell? ⟨g, 1, none⟩ = some v1 ∧ w.cell? ⟨g, 2, none⟩ = some v2 ∧ w.cell? ⟨g, 3, none⟩ = some v3 ∧ w.cell? ⟨g, 4, none⟩ = some v4 ∧ w.cell? ⟨g, 5, none⟩ = some v5 ∧ ∀ i, w.frozen? ⟨g, i, none⟩ = false := ⟨h.cell 0, h.cell 1, h.cell 2, h.cell 3, h.cell 4, h.cell 5, h.frozen⟩
theorem Below.put6 {n g : Nat} {a b : World} (h : Below n a b) (hg : n ≤ g) (u0 u1 u2 u3 u4 u5 : Value) : Below n a ((((((b.setCell ⟨g, 0, none⟩ u0).setCell ⟨g, 1, none⟩ u1).setCell ⟨g, 2, none⟩ u2).setCell ⟨g, 3, none⟩ u3).setCell ⟨g, 4, none⟩ u4).setCell ⟨g, 5, none⟩ u5) :=
  (((((h.setCell hg _).setCell hg _).setCell hg _).setCell hg _).setCell hg _).setCell hg _

set_option maxRecDepth 100000 in
set_option maxHeartbeats 4000000 in
theorem parseMark_any (s : ByteArray) (w : World) (hs : s.size ≤ 10000) (hL : LibW w) (hQ : Quant w) :
    Calls Tryz.prog 101 #[.string s] w fun e w' => PmR s e ∧ Below w.heap.size w w' := by
  have HL := Lib.hid hL; have HQ := Lib.hid hQ; clear hL hQ
  have br := (Blk.new w 93 #[.int .i64 0, .int .i64 0, .int .i64 0, .int .i64 0, .int .i64 0, .int .i64 0]).alloc (.cells #[.int .i64 0, .int .i64 0, .int .i64 0, .int .i64 0, .int .i64 0, .int .i64 0] 93 (0, 0))
  have bx := Blk.new' (w.alloc (.cells #[.int .i64 0, .int .i64 0, .int .i64 0, .int .i64 0, .int .i64 0, .int .i64 0] 93)) 93 #[.int .i64 0, .int .i64 0, .int .i64 0, .int .i64 0, .int .i64 0, .int .i64 0] (g := w.heap.size + 1) (by simp)
  have hB0 : Below w.heap.size w ((w.alloc (.cells #[.int .i64 0, .int .i64 0, .int .i64 0, .int .i64 0, .int .i64 0, .int .i64 0] 93)).alloc (.cells #[.int .i64 0, .int .i64 0, .int .i64 0, .int .i64 0, .int .i64 0, .int .i64 0] 93)) := (by repeat (first | (with_reducible exact Below.refl _ _) | (with_reducible assumption) | ((with_reducible refine Below.setCell ?_ ?_ _); rotate_left; · (first | exact Nat.le_refl _ | (simp; done) | (simp; omega) | omega)) | ((with_reducible refine Below.alloc ?_ ?_ _); rotate_left; · (first | exact Nat.le_refl _ | (simp; done) | (simp; omega) | omega)) | (with_reducible apply Below.drew) | (with_reducible apply below_drewN') | (refine Below.trans ?_ (Below.mono (by assumption) (by first | exact Nat.le_refl _ | (simp; done) | (simp; omega) | omega))) | exact Below.refl _ _ | assumption))
  obtain ⟨W0, hW0⟩ : ∃ W0, W0 = ((w.alloc (.cells #[.int .i64 0, .int .i64 0, .int .i64 0, .int .i64 0, .int .i64 0, .int .i64 0] 93)).alloc (.cells #[.int .i64 0, .int .i64 0, .int .i64 0, .int .i64 0, .int .i64 0, .int .i64 0] 93)) := ⟨_, rfl⟩
  have hsz0 : W0.heap.size = w.heap.size + 2 := by rw [hW0]; simp
  rw [← hW0] at br bx hB0
  have HSP := Lib.hid (split_any s 32 (by omega) W0 (HL.out.below hB0 (Nat.le_refl _)))
  have HSZ : Hid (∀ x ∈ cutB 32 s, x.size ≤ 10000) := Lib.hid fun x hx => Nat.le_trans (cutB_size hx) hs
  have HE1 : Hid ((cutB 32 s).length ≠ 6 → pmE s = 7) := Lib.hid fun h => by unfold pmE; rw [if_neg h]
  have HE2 : Hid ((cutB 32 s).length = 6 → ((cutB 32 s).all fun x => (numC x).isSome) = false → pmE s = 7) := Lib.hid fun h h1 => by unfold pmE; rw [if_pos h, if_neg (by simp [h1])]
  have HE3 : Hid ((cutB 32 s).length = 6 → ((cutB 32 s).all fun x => (numC x).isSome) = true → pmE s = cmE (mkOf s)) := Lib.hid fun h h1 => by unfold pmE; rw [if_pos h, if_pos h1]
  have HMK : Hid (∀ i (h : i < (cutB 32 s).length), mkOf s i = (numC (cutB 32 s)[i]).getD 0) := Lib.hid fun i h => by unfold mkOf; rw [List.getElem?_eq_getElem h]; rfl
  generalize cutB 32 s = ws at *
  obtain ⟨z0, z1, z2, z3, z4, z5, zf⟩ := blkz6 br
  have lbr := br.lt; have lbx := bx.lt
  go_enter Tryz.func101, Tryz.ntmps101
  go_upto_region 2 with (fail)
  rw [← hW0]
  clear hW0
  go_wp2_with fail
  refine HSP.out.mono ?_
  rintro e w1 ⟨rfl, rfl⟩
  rw [hsz0]
  have hB1 := hB0.alloc hB0.size (.cells (strsC ws).toArray 9 (0, 0))
  have br1 := br.alloc (.cells (strsC ws).toArray 9 (0, 0))
  have bx1 := bx.alloc (.cells (strsC ws).toArray 9 (0, 0))
  have bw := Blk.new W0 9 (strsC ws).toArray
  generalize hW1 : W0.alloc (.cells (strsC ws).toArray 9 (0, 0)) = W1 at *
  have hszz : w.heap.size + 3 ≤ W1.heap.size := by rw [← hW1]; simp; omega
  rw [hsz0] at bw
  clear hW1 br bx hB0 HSP z0 z1 z2 z3 z4 z5 zf lbr lbx hsz0
  have HW6 : Hid (∀ k (h : k < ws.length), W1.cell? ⟨w.heap.size + 2, k, none⟩ = some (.string ws[k])) := Lib.hid fun k h => by rw [bw.cell k, List.getElem?_toArray]; exact strsC_at h
  clear bw
  by_cases h6 : ws.length = 6
  · have h6' : ((ws.length : Int) != 6) = false := by simp; omega
    have h6i : (ws.length : Int) = 6 := by omega
    have H6 := Lib.hid h6; clear h6
    have h6n : ws.length ≤ 6 := by have := H6.out; omega
    go_wp2
    go_loopw [19] (fun i wr => ∃ k : Nat, k ≤ ws.length ∧ i = .int .i64 k ∧ Hid ((ws.take k).all (fun x => (numC x).isSome) = true ∧ (∃ cs, Blk wr (w.heap.size + 1) 93 cs ∧ cs.size = 6 ∧ ∀ j, j < 6 → cs[j]? = some (.int .i64 (if j < k then mkOf s j else 0))) ∧ (∀ k (h : k < ws.length), wr.cell? ⟨w.heap.size + 2, k, none⟩ = some (.string ws[k]))) ∧ Blk wr w.heap.size 93 #[.int .i64 0, .int .i64 0, .int .i64 0, .int .i64 0, .int .i64 0, .int .i64 0] ∧ Below w.heap.size w wr ∧ w.heap.size + 3 ≤ wr.heap.size) (fun i _ => ws.length - (intOf i).toNat)
    case atStart => exact ⟨0, Nat.zero_le _, rfl, Lib.hid ⟨rfl, ⟨_, bx1, rfl, fun j hj => by
      obtain rfl | rfl | rfl | rfl | rfl | rfl : j = 0 ∨ j = 1 ∨ j = 2 ∨ j = 3 ∨ j = 4 ∨ j = 5 := by omega
      all_goals rfl⟩, HW6.out⟩, br1, hB1, hszz⟩
    case round =>
      clear bx1 br1 hB1 hszz HW6
      obtain ⟨k, hk, rfl, HI, br1, hBr, hsr⟩ := hrel
      by_cases hlt : k < ws.length
      · have c0 := HI.out.2.2 k hlt
        have hsz := HSZ.out _ (List.getElem_mem hlt)
        have HALL := Lib.hid (all_take_snoc' ws hlt (fun x => (numC x).isSome))
        have HNO : Hid ((numC ws[k]).isSome = false → pmE s = 7) := Lib.hid fun h => HE2.out H6.out (List.all_eq_false.2 ⟨ws[k], List.getElem_mem hlt, by rw [h]; simp⟩)
        have HMK1 := Lib.hid (HMK.out k hlt)
        have HC := Lib.hid (cNumber_any ws[k] (by omega) _ (HL.out.below hBr (Nat.le_refl _)))
        obtain ⟨t, ht⟩ : ∃ t, numC ws[k] = t := ⟨_, rfl⟩
        rw [ht] at HC HALL HNO HMK1
        clear ht
        generalize ws[k] = x at *
        go_wp2_with fail
        refine HC.out.mono ?_
        rintro e w2 ⟨⟨n, b, rfl, rfl, hb⟩, hB2⟩
        have hBw := hBr.trans (hB2.mono (Below.size hBr))
        have br2 := br1.below hB2 br1.lt
        have hsr2 : w.heap.size + 3 ≤ w2.heap.size := by have := hB2.size; omega
        cases t with
        | none =>
          have HX := Lib.hid (HNO.out rfl)
          clear hb
          obtain ⟨z0, z1, z2, z3, z4, z5, zf⟩ := blkz6 br2
          go_wp2
          have e6 := Blk.set6 br2 (.int .i64 0) (.int .i64 0) (.int .i64 0) (.int .i64 0) (.int .i64 0) (.int .i64 0)
          have hF := Below.put6 (g := w.heap.size) hBw (Nat.le_refl _) (.int .i64 0) (.int .i64 0) (.int .i64 0) (.int .i64 0) (.int .i64 0) (.int .i64 0)
          obtain ⟨y0, y1, y2, y3, y4, y5, _⟩ := blkz6 e6
          refine bodyPost_ret (v := .tuple #[.agg #[.int .i64 0, .int .i64 0, .int .i64 0, .int .i64 0, .int .i64 0, .int .i64 0], .int .i64 7]) ?_ rfl ⟨PmR.bad HX.out (by decide), hF⟩
          simp [results, Tryz.results101, go_sem, y0, y1, y2, y3, y4, y5]
        | some v =>
          obtain rfl : n = v := hb v rfl
          have HQ2 : Hid ((∃ cs, Blk w2 (w.heap.size + 1) 93 cs ∧ cs.size = 6 ∧ ∀ j, j < 6 → cs[j]? = some (.int .i64 (if j < k then mkOf s j else 0))) ∧ (∀ k (h : k < ws.length), w2.cell? ⟨w.heap.size + 2, k, none⟩ = some (.string ws[k]))) := Lib.hid (by
            obtain ⟨_, ⟨cs, q1, q2, q3⟩, q4⟩ := HI.out
            exact ⟨⟨cs, q1.below hB2 q1.lt, q2, q3⟩, fun j hj => (hB2.cell (p := ⟨w.heap.size + 2, j, none⟩) (by simp only; omega)).trans (q4 j hj)⟩)
          have hst : ∃ y, w2.cell? ⟨w.heap.size + 1, k, none⟩ = some y ∧ w2.frozen? ⟨w.heap.size + 1, k, none⟩ = false := by
            obtain ⟨⟨cs, q1, q2, q3⟩, _⟩ := HQ2.out
            exact ⟨_, (q1.cell k).trans (q3 k (by omega)), q1.frozen k⟩
          obtain ⟨y, hy, hyf⟩ := hst
          have HAL2 : Hid ((ws.take (k + 1)).all (fun x => (numC x).isSome) = true) := Lib.hid (by rw [HALL.out, HI.out.1]; rfl)
          clear hb hB2 HC
          go_wp2
          refine ⟨⟨k + 1, by omega, by go_num, Lib.hid ⟨HAL2.out, ?_, ?_⟩, br2.far (p := ⟨w.heap.size + 1, k, none⟩) (by simp) _, Below.setCell hBw (by simp) _, by simp; omega⟩, by simp [intOf]; omega⟩
          · obtain ⟨⟨cs, q1, q2, q3⟩, _⟩ := HQ2.out
            refine ⟨cs.setIfInBounds k (.int .i64 n), q1.set_ k _, by simpa using q2, fun j hj => ?_⟩
            rw [Array.getElem?_setIfInBounds]
            by_cases e : k = j
            · subst e
              rw [if_pos rfl, if_pos (by omega), if_pos (by omega), HMK1.out]
              rfl
            · rw [if_neg e, q3 j hj]
              by_cases e2 : j < k
              · rw [if_pos e2, if_pos (by omega)]
              · rw [if_neg e2, if_neg (by omega)]
          · intro j hj
            rw [World.cell?_setCell_other _ _ _ _ (fun e => by have := congrArg Addr.block e; simp at this)]
            exact HQ2.out.2 j hj
      · have hk6 : k = 6 := by omega
        subst hk6
        have HALL : Hid (ws.all (fun x => (numC x).isSome) = true) := Lib.hid (by have := HI.out.1; rwa [List.take_of_length_le (by omega)] at this)
        have HP := Lib.hid (HE3.out H6.out HALL.out)
        have bx2 : Blk wr (w.heap.size + 1) 93 (mkM (mkOf s)) := by
          obtain ⟨_, ⟨cs, q1, q2, q3⟩, _⟩ := HI.out
          have : cs = mkM (mkOf s) := Array.ext_getElem? fun j => by
            by_cases hj : j < 6
            · rw [q3 j hj, if_pos hj, mkM_at _ hj]
            · rw [Array.getElem?_eq_none (by omega), Array.getElem?_eq_none (by simp; omega)]
          rw [this] at q1
          exact q1
        obtain ⟨x0, x1, x2, x3, x4, x5, xf⟩ := blkz6 bx2
        have hlb := bx2.lt
        have HCM := Lib.hid (checkMark_any (mkOf s) wr (HQ.out.below hBr (Nat.le_refl _)))
        clear HI
        go_wp2_with fail
        refine HCM.out.mono ?_
        rintro e w2 ⟨rfl, hB2⟩
        have hBw := hBr.trans (hB2.mono (Below.size hBr))
        have br2 := br1.below hB2 br1.lt
        have bx3 := bx2.below hB2 bx2.lt
        clear x0 x1 x2 x3 x4 x5 xf
        obtain ⟨x0, x1, x2, x3, x4, x5, xf⟩ := blkz6 bx3
        obtain ⟨z0, z1, z2, z3, z4, z5, zf⟩ := blkz6 br2
        by_cases hc0 : cmE (mkOf s) = 0
        · have hc1 : (cmE (mkOf s) != 0) = false := by simpa using hc0
          have HX : Hid (pmE s = 0) := Lib.hid (by rw [HP.out]; exact hc0)
          have HC0 := Lib.hid hc0; clear hc0
          go_wp2
          have e6 := Blk.set6 br2 (.int .i64 (mkOf s 0)) (.int .i64 (mkOf s 1)) (.int .i64 (mkOf s 2)) (.int .i64 (mkOf s 3)) (.int .i64 (mkOf s 4)) (.int .i64 (mkOf s 5))
          have hF := Below.put6 (g := w.heap.size) hBw (Nat.le_refl _) (.int .i64 (mkOf s 0)) (.int .i64 (mkOf s 1)) (.int .i64 (mkOf s 2)) (.int .i64 (mkOf s 3)) (.int .i64 (mkOf s 4)) (.int .i64 (mkOf s 5))
          obtain ⟨y0, y1, y2, y3, y4, y5, _⟩ := blkz6 e6
          refine bodyPost_ret (v := .tuple #[.agg (mkM (mkOf s)), .int .i64 0]) ?_ rfl ⟨by unfold PmR; rw [pmV_ok HX.out, HX.out], hF⟩
          simp [results, Tryz.results101, go_sem, y0, y1, y2, y3, y4, y5]
        · have hc1 : (cmE (mkOf s) != 0) = true := by simpa using hc0
          have HX : Hid (PmR s (.returned (.tuple #[.agg #[.int .i64 0, .int .i64 0, .int .i64 0, .int .i64 0, .int .i64 0, .int .i64 0], .int .i64 (cmE (mkOf s))]))) := Lib.hid (PmR.bad HP.out hc0)
          have HC0 := Lib.hid hc0; clear hc0
          go_wp2
          have e6 := Blk.set6 br2 (.int .i64 0) (.int .i64 0) (.int .i64 0) (.int .i64 0) (.int .i64 0) (.int .i64 0)
          have hF := Below.put6 (g := w.heap.size) hBw (Nat.le_refl _) (.int .i64 0) (.int .i64 0) (.int .i64 0) (.int .i64 0) (.int .i64 0) (.int .i64 0)
          obtain ⟨y0, y1, y2, y3, y4, y5, _⟩ := blkz6 e6
          refine bodyPost_ret (v := .tuple #[.agg #[.int .i64 0, .int .i64 0, .int .i64 0, .int .i64 0, .int .i64 0, .int .i64 0], .int .i64 (cmE (mkOf s))]) ?_ rfl ⟨HX.out, hF⟩
          simp [results, Tryz.results101, go_sem, y0, y1, y2, y3, y4, y5]
  · have h6' : ((ws.length : Int) != 6) = true := by simp; omega
    have HX := Lib.hid (HE1.out h6)
    have H6 := Lib.hid h6; clear h6
    obtain ⟨z0, z1, z2, z3, z4, z5, zf⟩ := blkz6 br1
    go_wp2
    have e6 := Blk.set6 br1 (.int .i64 0) (.int .i64 0) (.int .i64 0) (.int .i64 0) (.int .i64 0) (.int .i64 0)
    have hF := Below.put6 (g := w.heap.size) hB1 (Nat.le_refl _) (.int .i64 0) (.int .i64 0) (.int .i64 0) (.int .i64 0) (.int .i64 0) (.int .i64 0)
    obtain ⟨y0, y1, y2, y3, y4, y5, _⟩ := blkz6 e6
    refine bodyPost_ret (v := .tuple #[.agg #[.int .i64 0, .int .i64 0, .int .i64 0, .int .i64 0, .int .i64 0, .int .i64 0], .int .i64 7]) ?_ rfl ⟨PmR.bad HX.out (by decide), hF⟩
    simp [results, Tryz.results101, go_sem, y0, y1, y2, y3, y4, y5]
end Go.Proofs.YtmdbpkomanhpoaaGreatDoor
