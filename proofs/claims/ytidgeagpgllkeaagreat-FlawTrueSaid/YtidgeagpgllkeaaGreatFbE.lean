/- Contracts: the first example's scan; the examples of chapter 8 that the top statements begin with. -/
import Derived.Test.YtidgeagpgllkeaaGreatFbB
import Derived.Test.YtidgeagpgllkeaaGreatFbA
import Derived.Test.YtidgeagpgllkeaaGreatFaD
namespace Go.Proofs.YtidgeagpgllkeaaGreat
open Go.RowKit

theorem ScOk.one {w : World} {g h : Nat} {t u : TypeId} {s : Sc} (hd : Blk w g t (intsC s.data).toArray) (hs : Blk w h u (scC s).toArray) (hA : s.dA = some ⟨g, 0, none⟩) (hl : s.data.length ≤ 1000000000) : ScOk [s] (some ⟨h, 0, none⟩) w.heap.size w :=
  ⟨by simp, ⟨rfl, fun _ => ⟨h, 0, rfl, hs.lt, fun j u hj => by
      rw [Nat.zero_add, hs.cell j]
      have e : scsC [s] = scC s := by simp [scsC]
      rw [e] at hj; simpa using hj⟩⟩, fun x hx => by rw [List.mem_singleton] at hx; subst hx; exact hl,
    fun x hx => by
      rw [List.mem_singleton] at hx; subst hx
      exact ⟨by simp [intsC], fun _ => ⟨g, 0, hA, hd.lt, fun j u hj => by rw [Nat.zero_add, hd.cell j]; simpa using hj⟩⟩⟩

set_option maxHeartbeats 400000 in
theorem six_any (w : World) : Calls Tryz.prog 82 #[] w fun e w' =>
    e = .returned (.slice (some ⟨w.heap.size + 1, 0, none⟩) 1 1) ∧ ScOk [sixS (some ⟨w.heap.size, 0, none⟩) 6] (some ⟨w.heap.size + 1, 0, none⟩) w'.heap.size w' ∧ Below w.heap.size w w' := by
  go_enter Tryz.func82, Tryz.ntmps82
  go_wp2
  go_ret
  have h0 := (Blk.new w 3 #[.int .i64 5, .int .i64 0, .int .i64 7, .int .i64 0, .int .i64 6, .int .i64 0]).alloc (.cells #[.int .i64 0, .int .i64 0, .int .i64 2, .int .i64 3, .slice (some ⟨w.heap.size, 0, none⟩) 6 6] 39)
  have h1 := Blk.new (w.alloc (.cells #[.int .i64 5, .int .i64 0, .int .i64 7, .int .i64 0, .int .i64 6, .int .i64 0] 3)) 39 #[.int .i64 0, .int .i64 0, .int .i64 2, .int .i64 3, .slice (some ⟨w.heap.size, 0, none⟩) 6 6]
  simp only [World.size_alloc] at h1
  exact ⟨rfl, ScOk.one (s := sixS (some ⟨w.heap.size, 0, none⟩) 6) h0 h1 rfl (by show (6 : Nat) ≤ 1000000000; decide), (by repeat (first | (with_reducible exact Below.refl _ _) | (with_reducible assumption) | ((with_reducible refine Below.setCell ?_ ?_ _); rotate_left; · (first | exact Nat.le_refl _ | (simp; done) | (simp; omega) | omega)) | ((with_reducible refine Below.alloc ?_ ?_ _); rotate_left; · (first | exact Nat.le_refl _ | (simp; done) | (simp; omega) | omega)) | (with_reducible apply Below.drew) | (with_reducible apply below_drewN') | (refine Below.trans ?_ (Below.mono (by assumption) (by first | exact Nat.le_refl _ | (simp; done) | (simp; omega) | omega))) | exact Below.refl _ _ | assumption))⟩

theorem six_good (A : Option Addr) (cap : Nat) : ∀ s ∈ [sixS A cap], ScGood s := by
  intro s hs
  rw [List.mem_singleton] at hs; subst hs
  exact ⟨⟨(by decide : (-100000 : Int) ≤ 0), (by decide : (0 : Int) ≤ 100000)⟩, ⟨(by decide : (-100000 : Int) ≤ 0), (by decide : (0 : Int) ≤ 100000)⟩, ⟨(by decide : (1 : Int) ≤ 2), (by decide : (2 : Int) ≤ 24)⟩, ⟨(by decide : (1 : Int) ≤ 3), (by decide : (3 : Int) ≤ 24)⟩, rfl, (by decide : (6 : Nat) ≤ 576), fun x hx => by
    simp only [sixS, List.mem_cons, List.not_mem_nil, or_false] at hx
    omega⟩
theorem six_err (A : Option Addr) (cap : Nat) : scanAskE [sixS A cap] 5 = 0 := rfl

/-- The tip of the examples. -/
theorem tip_val : tipV ⟨10000000, 10000000, 1800, 1800, 6000⟩ = ⟨2400, 2400, 0⟩ := by
  have h : isq 5760000 = 2400 := isq_eq (by decide) (by decide) (by decide)
  have hE : tipE ⟨10000000, 10000000, 1800, 1800, 6000⟩ = 0 := rfl
  have hl : tipLo ⟨10000000, 10000000, 1800, 1800, 6000⟩ = 5760000 := rfl
  have hh : tipHi ⟨10000000, 10000000, 1800, 1800, 6000⟩ = 5760000 := rfl
  unfold tipV isqUp
  rw [hE, hl, hh, h]; rfl

/-- What the call of Areas at the first example gives. -/
theorem sixAreas_any (w : World) (A Aa : Option Addr) (cap dcap B : Nat) (h : ScOk [sixS A dcap] Aa B w) (hBw : B ≤ w.heap.size) :
    Calls Tryz.prog 22 #[.slice Aa 1 cap, .agg #[.int .i64 5, .bool true]] w fun e w' => ∃ g v cap', e = .returned (.tuple #[.slice (some ⟨g, 0, none⟩) 1 cap', .int .i64 0]) ∧ w.heap.size ≤ g ∧ g < w'.heap.size ∧
      w'.cell? ⟨g, 0, none⟩ = some v ∧ w'.cell? ⟨g, 1, none⟩ = some (.int .i64 0) ∧ w'.cell? ⟨g, 2, none⟩ = some (.int .i64 2) ∧ w'.cell? ⟨g, 3, none⟩ = some (.int .i64 7) ∧ (∃ A c, v = .slice A 3 c) ∧ Below w.heap.size w w' := by
  refine (areas_ok [sixS A dcap] _ cap B 5 true w h hBw (six_err A dcap) (Lib.hid (six_good A dcap))).mono ?_
  rintro e w' ⟨v, P, Bs, rfl, hP, hS, hrow, hcells, hB⟩
  obtain ⟨q, rfl, hl, hpk⟩ := six_areas hP hS
  have e7 : atV [sixS A dcap] 0 2 = 7 := by rfl
  rw [show cellsA (atV [sixS A dcap]) ([q].map (·.2)) = [q.2.1, .int .i64 0, .int .i64 2, .int .i64 7] by simp only [cellsA, encA, List.map_cons, List.map_nil, List.flatMap_cons, List.flatMap_nil, hpk, e7, List.append_nil]] at hrow
  obtain ⟨g, c, rfl, h1, h2⟩ := hrow.form (by simp)
  have hc := hrow.cells (g := g) rfl
  have hq := hcells q (by simp)
  rw [hl] at hq
  obtain ⟨g2, c2, hv, _, _⟩ := hq.form (by simp)
  exact ⟨g, q.2.1, c, rfl, h1, h2, hc 0 _ rfl, hc 1 _ rfl, hc 2 _ rfl, hc 3 _ rfl, ⟨_, _, hv⟩, hB⟩

set_option maxHeartbeats 1000000 in
theorem flawed_any (w : World) : Calls Tryz.prog 48 #[] w fun e w' => e = .returned (.bool true) ∧ Below w.heap.size w w' := by
  go_enter Tryz.func48, Tryz.ntmps48
  go_wp2_with fail
  refine (six_any w).mono ?_
  rintro e w1 ⟨rfl, hS, hB1⟩
  go_wp2_with fail
  refine (sixAreas_any w1 _ _ 1 6 _ hS (Nat.le_refl _)).mono ?_
  rintro e w2 ⟨g, v, cap', rfl, hg0, hg1, _, _, _, hc3, _, hB2⟩
  have hBB : Below w.heap.size w w2 := hB1.trans (hB2.mono (Below.size hB1))
  clear hB1 hB2 hS
  go_wp2_with fail
  refine (tipDepth_any ⟨10000000, 10000000, 1800, 1800, 6000⟩ _).mono ?_
  rw [tip_val]
  unfold reC
  rintro e w3 ⟨rfl, hB3⟩
  have hc := (hB3.cell (p := ⟨g, 3, none⟩) hg1).trans hc3
  have hg2 : g < w3.heap.size := Nat.lt_of_lt_of_le hg1 (Below.size hB3)
  have hBB3 := hBB.trans (hB3.mono (Below.size hBB))
  clear hB3 hc3 hBB
  go_wp2
  go_ret
  exact ⟨rfl, hBB3.alloc (Below.size hBB3) _⟩
end Go.Proofs.YtidgeagpgllkeaaGreat
