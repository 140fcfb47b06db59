/- The inspection of the examples, computed. The whole box (couplantref09.Whole). The set-up of the examples (couplantlaw10.Weld). -/
import Derived.Test.YtmdbpkomanhpoaaGreatDoorZqOeQ
import Derived.Test.YtmdbpkomanhpoaaGreatDoorZqOeU
namespace Go.Proofs.YtmdbpkomanhpoaaGreatDoor
open Go.RowKit Go.Lib

def weldTop : Nat → Int := fun i => if i % 2 = 0 then 0 else grt (i / 2)
def weldLow : Nat → Int := fun i => if i = 10 then 0 else if i = 11 then 9 else weldTop i
def weldS : Se := { pe := [⟨⟨#[97, 110, 110]⟩, 1⟩, ⟨⟨#[98, 111, 98]⟩, 2⟩, ⟨⟨#[99, 105, 100]⟩, 2⟩, ⟨⟨#[100, 111, 114, 97]⟩, 3⟩], cd := ⟨⟨#[99]⟩, [], [⟨weldLow, 0⟩, ⟨weldTop, 1⟩]⟩, thick := 1000, st := [⟨⟨#[103, 97, 105, 110]⟩, 100, 50, none, 0, []⟩], tk := ⟨0, 20, 0, 10⟩, gf := 0, gt := 60, lv := [⟨100, 5⟩, ⟨900, 12⟩] }
def daysL : List (ByteArray × ByteArray) := [(⟨#[97, 110, 110]⟩, ⟨#[116, 117, 110, 101, 32, 48, 32, 48, 32, 50, 48, 48]⟩), (⟨#[97, 110, 110]⟩, ⟨#[115, 99, 97, 110, 32, 53, 32, 49, 48]⟩), (⟨#[98, 111, 98]⟩, ⟨#[109, 97, 114, 107, 32, 109, 49, 32, 55, 32, 49, 32, 49, 48, 48, 48, 32, 49, 48, 48, 32, 53, 48, 32, 51, 48, 48, 32, 53]⟩), (⟨#[99, 105, 100]⟩, ⟨#[100, 101, 99, 105, 100, 101, 32, 109, 49]⟩)]
theorem days_right : (replV weldS daysL).2.2 = 0 := by decide +kernel
theorem days_right1 : (replV weldS daysL).2.1 = 0 := by decide +kernel
theorem day1_right : (replV weldS (daysL.take 1)).2 = (0, 0) := by decide +kernel
theorem day1_anew : anewR weldS.tk (readsL (replV weldS (daysL.take 1)).1.sc) = [(0, 20)] := by decide +kernel
theorem days_anew : anewR weldS.tk (readsL (replV weldS daysL).1.sc) = [] := by decide +kernel
theorem days_verdict : verdV (replV weldS daysL).1 = 1 := by decide +kernel
theorem days_one : (replV weldS daysL).1.ms.length = 1 := by decide +kernel
theorem days_mark : (replV weldS daysL).1.ms.map (fun x => (x.nm.data.toList, x.po, x.sta, x.row, x.dec)) = [([109, 49], 7, 1, 0, 0)] := by decide +kernel
theorem seal_a : sealL [(⟨#[97]⟩, ⟨#[]⟩)] 1 = 23450233 := by decide +kernel
theorem ent_a : entE [(⟨#[97]⟩, ⟨#[]⟩)] = 0 := by decide +kernel
theorem days_text : strB (accL ⟨#[109, 49]⟩ 7 0 ++ (anewL ++ verdL)) = ⟨#[109, 49, 32, 55, 32, 97, 99, 99, 101, 112, 116, 32, 48, 10, 97, 110, 101, 119, 10, 118, 101, 114, 100, 105, 99, 116, 32, 109, 97, 121, 98, 101, 10]⟩ := by decide +kernel
end Go.Proofs.YtmdbpkomanhpoaaGreatDoor

namespace Go.Proofs.YtmdbpkomanhpoaaGreatDoor
open Go.RowKit Go.Lib

theorem Below.set12 {n g : Nat} {a w : World} (h : Below n a w) (hg : n ≤ g) (u0 u1 u2 u3 u4 u5 u6 u7 u8 u9 u10 u11 : Value) : Below n a ((((((((((((w.setCell ⟨g, 0, none⟩ u0).setCell ⟨g, 1, none⟩ u1).setCell ⟨g, 2, none⟩ u2).setCell ⟨g, 3, none⟩ u3).setCell ⟨g, 4, none⟩ u4).setCell ⟨g, 5, none⟩ u5).setCell ⟨g, 6, none⟩ u6).setCell ⟨g, 7, none⟩ u7).setCell ⟨g, 8, none⟩ u8).setCell ⟨g, 9, none⟩ u9).setCell ⟨g, 10, none⟩ u10).setCell ⟨g, 11, none⟩ u11) :=
  Below.setCell (Below.setCell (Below.setCell (Below.setCell (Below.setCell (Below.setCell (Below.setCell (Below.setCell (Below.setCell (Below.setCell (Below.setCell (Below.setCell (h) hg u0) hg u1) hg u2) hg u3) hg u4) hg u5) hg u6) hg u7) hg u8) hg u9) hg u10) hg u11
theorem Blk.set12 {w : World} {g : Nat} {t : TypeId} {v0 v1 v2 v3 v4 v5 v6 v7 v8 v9 v10 v11 : Value} (h : Blk w g t #[v0, v1, v2, v3, v4, v5, v6, v7, v8, v9, v10, v11]) (u0 u1 u2 u3 u4 u5 u6 u7 u8 u9 u10 u11 : Value) : Blk ((((((((((((w.setCell ⟨g, 0, none⟩ u0).setCell ⟨g, 1, none⟩ u1).setCell ⟨g, 2, none⟩ u2).setCell ⟨g, 3, none⟩ u3).setCell ⟨g, 4, none⟩ u4).setCell ⟨g, 5, none⟩ u5).setCell ⟨g, 6, none⟩ u6).setCell ⟨g, 7, none⟩ u7).setCell ⟨g, 8, none⟩ u8).setCell ⟨g, 9, none⟩ u9).setCell ⟨g, 10, none⟩ u10).setCell ⟨g, 11, none⟩ u11) g t #[u0, u1, u2, u3, u4, u5, u6, u7, u8, u9, u10, u11] := by
  have h : Blk (w.setCell ⟨g, 0, none⟩ u0) g t #[u0, v1, v2, v3, v4, v5, v6, v7, v8, v9, v10, v11] := Blk.set_ h 0 u0
  have h : Blk ((w.setCell ⟨g, 0, none⟩ u0).setCell ⟨g, 1, none⟩ u1) g t #[u0, u1, v2, v3, v4, v5, v6, v7, v8, v9, v10, v11] := Blk.set_ h 1 u1
  have h : Blk (((w.setCell ⟨g, 0, none⟩ u0).setCell ⟨g, 1, none⟩ u1).setCell ⟨g, 2, none⟩ u2) g t #[u0, u1, u2, v3, v4, v5, v6, v7, v8, v9, v10, v11] := Blk.set_ h 2 u2
  have h : Blk ((((w.setCell ⟨g, 0, none⟩ u0).setCell ⟨g, 1, none⟩ u1).setCell ⟨g, 2, none⟩ u2).setCell ⟨g, 3, none⟩ u3) g t #[u0, u1, u2, u3, v4, v5, v6, v7, v8, v9, v10, v11] := Blk.set_ h 3 u3
  have h : Blk (((((w.setCell ⟨g, 0, none⟩ u0).setCell ⟨g, 1, none⟩ u1).setCell ⟨g, 2, none⟩ u2).setCell ⟨g, 3, none⟩ u3).setCell ⟨g, 4, none⟩ u4) g t #[u0, u1, u2, u3, u4, v5, v6, v7, v8, v9, v10, v11] := Blk.set_ h 4 u4
  have h : Blk ((((((w.setCell ⟨g, 0, none⟩ u0).setCell ⟨g, 1, none⟩ u1).setCell ⟨g, 2, none⟩ u2).setCell ⟨g, 3, none⟩ u3).setCell ⟨g, 4, none⟩ u4).setCell ⟨g, 5, none⟩ u5) g t #[u0, u1, u2, u3, u4, u5, v6, v7, v8, v9, v10, v11] := Blk.set_ h 5 u5
  have h : Blk (((((((w.setCell ⟨g, 0, none⟩ u0).setCell ⟨g, 1, none⟩ u1).setCell ⟨g, 2, none⟩ u2).setCell ⟨g, 3, none⟩ u3).setCell ⟨g, 4, none⟩ u4).setCell ⟨g, 5, none⟩ u5).setCell ⟨g, 6, none⟩ u6) g t #[u0, u1, u2, u3, u4, u5, u6, v7, v8, v9, v10, v11] := Blk.set_ h 6 u6
  have h : Blk ((((((((w.setCell ⟨g, 0, none⟩ u0).setCell ⟨g, 1, none⟩ u1).setCell ⟨g, 2, none⟩ u2).setCell ⟨g, 3, none⟩ u3).setCell ⟨g, 4, none⟩ u4).setCell ⟨g, 5, none⟩ u5).setCell ⟨g, 6, none⟩ u6).setCell ⟨g, 7, none⟩ u7) g t #[u0, u1, u2, u3, u4, u5, u6, u7, v8, v9, v10, v11] := Blk.set_ h 7 u7
  have h : Blk (((((((((w.setCell ⟨g, 0, none⟩ u0).setCell ⟨g, 1, none⟩ u1).setCell ⟨g, 2, none⟩ u2).setCell ⟨g, 3, none⟩ u3).setCell ⟨g, 4, none⟩ u4).setCell ⟨g, 5, none⟩ u5).setCell ⟨g, 6, none⟩ u6).setCell ⟨g, 7, none⟩ u7).setCell ⟨g, 8, none⟩ u8) g t #[u0, u1, u2, u3, u4, u5, u6, u7, u8, v9, v10, v11] := Blk.set_ h 8 u8
  have h : Blk ((((((((((w.setCell ⟨g, 0, none⟩ u0).setCell ⟨g, 1, none⟩ u1).setCell ⟨g, 2, none⟩ u2).setCell ⟨g, 3, none⟩ u3).setCell ⟨g, 4, none⟩ u4).setCell ⟨g, 5, none⟩ u5).setCell ⟨g, 6, none⟩ u6).setCell ⟨g, 7, none⟩ u7).setCell ⟨g, 8, none⟩ u8).setCell ⟨g, 9, none⟩ u9) g t #[u0, u1, u2, u3, u4, u5, u6, u7, u8, u9, v10, v11] := Blk.set_ h 9 u9
  have h : Blk (((((((((((w.setCell ⟨g, 0, none⟩ u0).setCell ⟨g, 1, none⟩ u1).setCell ⟨g, 2, none⟩ u2).setCell ⟨g, 3, none⟩ u3).setCell ⟨g, 4, none⟩ u4).setCell ⟨g, 5, none⟩ u5).setCell ⟨g, 6, none⟩ u6).setCell ⟨g, 7, none⟩ u7).setCell ⟨g, 8, none⟩ u8).setCell ⟨g, 9, none⟩ u9).setCell ⟨g, 10, none⟩ u10) g t #[u0, u1, u2, u3, u4, u5, u6, u7, u8, u9, u10, v11] := Blk.set_ h 10 u10
  have h : Blk ((((((((((((w.setCell ⟨g, 0, none⟩ u0).setCell ⟨g, 1, none⟩ u1).setCell ⟨g, 2, none⟩ u2).setCell ⟨g, 3, none⟩ u3).setCell ⟨g, 4, none⟩ u4).setCell ⟨g, 5, none⟩ u5).setCell ⟨g, 6, none⟩ u6).setCell ⟨g, 7, none⟩ u7).setCell ⟨g, 8, none⟩ u8).setCell ⟨g, 9, none⟩ u9).setCell ⟨g, 10, none⟩ u10).setCell ⟨g, 11, none⟩ u11) g t #[u0, u1, u2, u3, u4, u5, u6, u7, u8, u9, u10, u11] := Blk.set_ h 11 u11
  exact h
theorem blk12o {w : World} {g t : Nat} {v0 v1 v2 v3 v4 v5 v6 v7 v8 v9 v10 v11 : Value} (h : Blk w g t #[v0, v1, v2, v3, v4, v5, v6, v7, v8, v9, v10, v11]) : w.cell? ⟨g, 0, none⟩ = some v0 ∧ w.cell? ⟨g, 1, none⟩ = some v1 ∧ w.cell? ⟨g, 2, none⟩ = some v2 ∧ w.cell? ⟨g, 3, none⟩ = some v3 ∧ w.cell? ⟨g, 4, none⟩ = some v4 ∧ w.cell? ⟨g, 5, none⟩ = some v5 ∧ w.cell? ⟨g, 6, none⟩ = some v6 ∧ w.cell? ⟨g, 7, none⟩ = some v7 ∧ w.cell? ⟨g, 8, none⟩ = some v8 ∧ w.cell? ⟨g, 9, none⟩ = some v9 ∧ w.cell? ⟨g, 10, none⟩ = some v10 ∧ w.cell? ⟨g, 11, none⟩ = some v11 ∧ ∀ i, w.frozen? ⟨g, i, none⟩ = false := ⟨h.cell 0, h.cell 1, h.cell 2, h.cell 3, h.cell 4, h.cell 5, h.cell 6, h.cell 7, h.cell 8, h.cell 9, h.cell 10, h.cell 11, h.frozen⟩
/-- The whole box, as far as k ranges. -/
def wTo (k : Nat) : Nat → Int := fun i => if i < 2 * k then weldTop i else 0
theorem whole_set (k : Nat) (hk : k < 6) : ((bxC (wTo k)).setIfInBounds (k * 2) (.int .i64 0)).setIfInBounds (k * 2 + 1) (.int .i64 (grt k)) = bxC (wTo (k + 1)) := by
  obtain rfl | rfl | rfl | rfl | rfl | rfl : k = 0 ∨ k = 1 ∨ k = 2 ∨ k = 3 ∨ k = 4 ∨ k = 5 := by omega
  all_goals kernel_rfl
theorem wTo_all : bxC (wTo 6) = bxC weldTop := by kernel_rfl
set_option maxRecDepth 100000 in
set_option maxHeartbeats 4000000 in
theorem whole_any (w : World) : Calls Tryz.prog 35 #[] w fun e w' => e = .returned (.agg (bxC weldTop)) ∧ Below w.heap.size w w' := by
  have br := (Blk.new w 101 #[.int .i64 0, .int .i64 0, .int .i64 0, .int .i64 0, .int .i64 0, .int .i64 0, .int .i64 0, .int .i64 0, .int .i64 0, .int .i64 0, .int .i64 0, .int .i64 0]).alloc (.cells #[.int .i64 0, .int .i64 0, .int .i64 0, .int .i64 0, .int .i64 0, .int .i64 0, .int .i64 0, .int .i64 0, .int .i64 0, .int .i64 0, .int .i64 0, .int .i64 0] 101 (0, 0))
  have bx : Blk ((w.alloc (.cells #[.int .i64 0, .int .i64 0, .int .i64 0, .int .i64 0, .int .i64 0, .int .i64 0, .int .i64 0, .int .i64 0, .int .i64 0, .int .i64 0, .int .i64 0, .int .i64 0] 101)).alloc (.cells #[.int .i64 0, .int .i64 0, .int .i64 0, .int .i64 0, .int .i64 0, .int .i64 0, .int .i64 0, .int .i64 0, .int .i64 0, .int .i64 0, .int .i64 0, .int .i64 0] 101)) (w.heap.size + 1) 101 (bxC (wTo 0)) := Blk.new' (w.alloc (.cells #[.int .i64 0, .int .i64 0, .int .i64 0, .int .i64 0, .int .i64 0, .int .i64 0, .int .i64 0, .int .i64 0, .int .i64 0, .int .i64 0, .int .i64 0, .int .i64 0] 101)) 101 #[.int .i64 0, .int .i64 0, .int .i64 0, .int .i64 0, .int .i64 0, .int .i64 0, .int .i64 0, .int .i64 0, .int .i64 0, .int .i64 0, .int .i64 0, .int .i64 0] (g := w.heap.size + 1) (by simp)
  have hB0 : Below w.heap.size w ((w.alloc (.cells #[.int .i64 0, .int .i64 0, .int .i64 0, .int .i64 0, .int .i64 0, .int .i64 0, .int .i64 0, .int .i64 0, .int .i64 0, .int .i64 0, .int .i64 0, .int .i64 0] 101)).alloc (.cells #[.int .i64 0, .int .i64 0, .int .i64 0, .int .i64 0, .int .i64 0, .int .i64 0, .int .i64 0, .int .i64 0, .int .i64 0, .int .i64 0, .int .i64 0, .int .i64 0] 101)) := ((Below.refl _ _).alloc (Nat.le_refl _) _).alloc (by simp) _
  go_enter Tryz.func35, Tryz.ntmps35
  go_wp2
  generalize hW0 : (w.alloc (.cells #[.int .i64 0, .int .i64 0, .int .i64 0, .int .i64 0, .int .i64 0, .int .i64 0, .int .i64 0, .int .i64 0, .int .i64 0, .int .i64 0, .int .i64 0, .int .i64 0] 101)).alloc (.cells #[.int .i64 0, .int .i64 0, .int .i64 0, .int .i64 0, .int .i64 0, .int .i64 0, .int .i64 0, .int .i64 0, .int .i64 0, .int .i64 0, .int .i64 0, .int .i64 0] 101) = W0 at *
  clear hW0
  go_loopw [2] (fun i wr => ∃ k : Nat, k ≤ 6 ∧ i = .int .i64 k ∧ Hid (Blk wr (w.heap.size + 1) 101 (bxC (wTo k))) ∧ Hid (Blk wr w.heap.size 101 #[.int .i64 0, .int .i64 0, .int .i64 0, .int .i64 0, .int .i64 0, .int .i64 0, .int .i64 0, .int .i64 0, .int .i64 0, .int .i64 0, .int .i64 0, .int .i64 0]) ∧ Below w.heap.size w wr) (fun i _ => 6 - (intOf i).toNat)
  case atStart => exact ⟨0, Nat.zero_le _, rfl, Lib.hid bx, Lib.hid br, hB0⟩
  case round =>
    clear bx br hB0
    obtain ⟨k, hk, rfl, HX, HR, hBr⟩ := hrel
    by_cases hlt : k < 6
    · have c0 : wr.cell? ⟨w.heap.size + 1, k * 2, none⟩ = some (.int .i64 (wTo k (k * 2))) := (HX.out.cell _).trans (bxC_at _ (by omega))
      have c1 : wr.cell? ⟨w.heap.size + 1, k * 2 + 1, none⟩ = some (.int .i64 (wTo k (k * 2 + 1))) := (HX.out.cell _).trans (bxC_at _ (by omega))
      have cf := HX.out.frozen
      have lx := HX.out.lt
      have HWS := Lib.hid (whole_set k hlt)
      have HG := Lib.hid (greatest_any k hlt wr)
      have hki : (k : Int) < 6 := by omega
      generalize wTo k (k * 2) = x0 at *
      generalize wTo k (k * 2 + 1) = x1 at *
      generalize grt k = gk at *
      go_wp2_with fail
      refine HG.out.mono ?_
      rintro e w1 ⟨rfl, rfl⟩
      go_wp2
      refine ⟨⟨k + 1, by omega, by go_num, Lib.hid ?_, Lib.hid ((HR.out.far (p := ⟨w.heap.size + 1, k * 2, none⟩) (by simp) _).far (p := ⟨w.heap.size + 1, k * 2 + 1, none⟩) (by simp) _), (hBr.setCell (p := ⟨w.heap.size + 1, k * 2, none⟩) (by simp) _).setCell (p := ⟨w.heap.size + 1, k * 2 + 1, none⟩) (by simp) _⟩, by simp [intOf]; omega⟩
      rw [← HWS.out]
      exact (HX.out.set_ (k * 2) _).set_ (k * 2 + 1) _
    · obtain rfl : k = 6 := by omega
      have bx := HX.out
      have br := HR.out
      rw [wTo_all] at bx
      obtain ⟨c0, c1, c2, c3, c4, c5, c6, c7, c8, c9, c10, c11, cf⟩ := blk12o bx
      obtain ⟨z0, z1, z2, z3, z4, z5, z6, z7, z8, z9, z10, z11, zf⟩ := blk12o br
      have lx := bx.lt
      have lr := br.lt
      clear HX HR
      go_wp2
      have e12 := Blk.set12 br (.int .i64 (weldTop 0)) (.int .i64 (weldTop 1)) (.int .i64 (weldTop 2)) (.int .i64 (weldTop 3)) (.int .i64 (weldTop 4)) (.int .i64 (weldTop 5)) (.int .i64 (weldTop 6)) (.int .i64 (weldTop 7)) (.int .i64 (weldTop 8)) (.int .i64 (weldTop 9)) (.int .i64 (weldTop 10)) (.int .i64 (weldTop 11))
      have hF := Below.set12 hBr (g := w.heap.size) (Nat.le_refl _) (.int .i64 (weldTop 0)) (.int .i64 (weldTop 1)) (.int .i64 (weldTop 2)) (.int .i64 (weldTop 3)) (.int .i64 (weldTop 4)) (.int .i64 (weldTop 5)) (.int .i64 (weldTop 6)) (.int .i64 (weldTop 7)) (.int .i64 (weldTop 8)) (.int .i64 (weldTop 9)) (.int .i64 (weldTop 10)) (.int .i64 (weldTop 11))
      obtain ⟨y0, y1, y2, y3, y4, y5, y6, y7, y8, y9, y10, y11, _⟩ := blk12o e12
      refine bodyPost_ret (v := .agg (bxC weldTop)) ?_ rfl ⟨rfl, hF⟩
      simp [results, Tryz.results35, go_sem, y0, y1, y2, y3, y4, y5, y6, y7, y8, y9, y10, y11]
end Go.Proofs.YtmdbpkomanhpoaaGreatDoor

namespace Go.Proofs.YtmdbpkomanhpoaaGreatDoor
open Go.RowKit Go.Lib

theorem Blk.far13 {w : World} {g x t : Nat} {cs : Array Value} (h : Blk w g t cs) (hx : g ≠ x) (u0 u1 u2 u3 u4 u5 u6 u7 u8 u9 u10 u11 u12 : Value) : Blk (((((((((((((w.setCell ⟨x, 0, none⟩ u0).setCell ⟨x, 1, none⟩ u1).setCell ⟨x, 2, none⟩ u2).setCell ⟨x, 3, none⟩ u3).setCell ⟨x, 4, none⟩ u4).setCell ⟨x, 5, none⟩ u5).setCell ⟨x, 6, none⟩ u6).setCell ⟨x, 7, none⟩ u7).setCell ⟨x, 8, none⟩ u8).setCell ⟨x, 9, none⟩ u9).setCell ⟨x, 10, none⟩ u10).setCell ⟨x, 11, none⟩ u11).setCell ⟨x, 12, none⟩ u12) g t cs :=
  (((((((((((((h.far (p := ⟨x, 0, none⟩) hx u0).far (p := ⟨x, 1, none⟩) hx u1).far (p := ⟨x, 2, none⟩) hx u2).far (p := ⟨x, 3, none⟩) hx u3).far (p := ⟨x, 4, none⟩) hx u4).far (p := ⟨x, 5, none⟩) hx u5).far (p := ⟨x, 6, none⟩) hx u6).far (p := ⟨x, 7, none⟩) hx u7).far (p := ⟨x, 8, none⟩) hx u8).far (p := ⟨x, 9, none⟩) hx u9).far (p := ⟨x, 10, none⟩) hx u10).far (p := ⟨x, 11, none⟩) hx u11).far (p := ⟨x, 12, none⟩) hx u12)
theorem rowOfB {W : World} {g t n size : Nat} {xs : List Value} (b : Blk W g t xs.toArray) (hl : xs.length = n * size) : Row W W.heap.size size (some ⟨g, 0, none⟩) n xs :=
  ⟨hl, fun _ => ⟨g, 0, rfl, b.lt, fun j u hu => by rw [Nat.zero_add, b.cell j, List.getElem?_toArray]; exact hu⟩⟩
theorem weldOk {W : World} {g4 g9 gc gd : Nat} (b4 : Blk W g4 104 #[.string ⟨#[97, 110, 110]⟩, .int .i64 1, .string ⟨#[98, 111, 98]⟩, .int .i64 2, .string ⟨#[99, 105, 100]⟩, .int .i64 2, .string ⟨#[100, 111, 114, 97]⟩, .int .i64 3]) (b9 : Blk W g9 106 #[.int .i64 (weldLow 0), .int .i64 (weldLow 1), .int .i64 (weldLow 2), .int .i64 (weldLow 3), .int .i64 (weldLow 4), .int .i64 (weldLow 5), .int .i64 (weldLow 6), .int .i64 (weldLow 7), .int .i64 (weldLow 8), .int .i64 (weldLow 9), .int .i64 (weldLow 10), .int .i64 (weldLow 11), .int .i64 0, .int .i64 (weldTop 0), .int .i64 (weldTop 1), .int .i64 (weldTop 2), .int .i64 (weldTop 3), .int .i64 (weldTop 4), .int .i64 (weldTop 5), .int .i64 (weldTop 6), .int .i64 (weldTop 7), .int .i64 (weldTop 8), .int .i64 (weldTop 9), .int .i64 (weldTop 10), .int .i64 (weldTop 11), .int .i64 1]) (bc : Blk W gc 109 #[.string ⟨#[103, 97, 105, 110]⟩, .int .i64 100, .int .i64 50, .slice none 0 0]) (bd : Blk W gd 111 #[.int .i64 100, .int .i64 5, .int .i64 900, .int .i64 12]) :
    SeOk weldS ⟨some ⟨g4, 0, none⟩, 4, none, 0, some ⟨g9, 0, none⟩, 2, some ⟨gc, 0, none⟩, 1, some ⟨gd, 0, none⟩, 2⟩ W.heap.size W := by
  refine ⟨⟨by decide, Nat.le_refl 4, (by decide : (4 : Nat) ≤ 9223372036854775807), rowOfB b4 rfl, Nat.le_refl _⟩, ⟨by decide, by decide, by decide, ⟨rfl, fun h => absurd h (by decide)⟩, rowOfB b9 rfl, fun _ => rfl, fun h => (by cases h), Nat.le_refl _⟩, ⟨by decide, fun p hp => ?_, Nat.le_refl 1, (by decide : (1 : Nat) ≤ 9223372036854775807), rowOfB bc rfl, Nat.le_refl _⟩, ⟨Nat.le_refl 2, (by decide : (2 : Nat) ≤ 9223372036854775807), rowOfB bd rfl, Nat.le_refl _⟩⟩
  obtain rfl := List.mem_singleton.1 hp
  exact ⟨by decide, ⟨rfl, fun h => absurd h (by decide)⟩⟩
end Go.Proofs.YtmdbpkomanhpoaaGreatDoor
