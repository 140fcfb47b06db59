/- Contracts: few scans; the reference's error of scans. Contract: copies of scans. What is said of scans does not depend on where their data lie; a list of scans opened. -/
import Derived.Deep.DeepCutAuto
import Derived.Test.YtidgeagpgllkeaaGreatZdFaE
import Derived.Test.YtidgeagpgllkeaaGreatZdFeB
import Derived.Test.YtidgeagpgllkeaaGreatZdFaH
import Derived.Test.YtidgeagpgllkeaaGreatZdFdD
namespace Go.Proofs.YtidgeagpgllkeaaGreat
open Go.RowKit

set_option maxHeartbeats 400000 in
theorem isLevel_any (n : Int) (w : World) : Calls Tryz.prog 85 #[.int .i64 n] w fun e w' => e = .returned (.bool (wi n 0 1000000000)) ∧ w = w' := by
  go_enter Tryz.func85, Tryz.ntmps85
  go_wp2_with (go_at_call 27; refine (bWithin_any _ _ _ _).mono ?_; rintro e w1 ⟨rfl, rfl⟩)
  go_ret
  exact ⟨rfl, rfl⟩

end Go.Proofs.YtidgeagpgllkeaaGreat

namespace Go.Proofs.YtidgeagpgllkeaaGreat
open Go.RowKit

theorem own_row2 {w : World} {base e size n : Nat} {v : Value} {xs : List Value} (h : w.ownsRow base e size v n xs) : ∃ A cap, v = .slice A n cap ∧ Row w w.heap.size size A n xs ∧ n ≤ cap ∧ (A = none → cap = 0) := by
  rcases h.2 with ⟨rfl, h0⟩ | ⟨g, cap, cur, rfl, hb, hh, hc, _⟩
  · subst h0
    obtain rfl : xs = [] := List.eq_nil_of_length_eq_zero (by have := h.1; simpa using this)
    exact ⟨none, 0, rfl, Row.nil_, Nat.le_refl _, fun _ => rfl⟩
  · refine ⟨_, cap, rfl, ⟨h.1, fun hn => ⟨g, 0, rfl, (Array.getElem?_eq_some_iff.1 hh).1, fun j u hj => ?_⟩⟩, hc, fun h => by cases h⟩
    have := h.cells (g := g) rfl j u hj
    rwa [Addr.add_lit] at this

end Go.Proofs.YtidgeagpgllkeaaGreat

namespace Go.Proofs.YtidgeagpgllkeaaGreat
open Go.RowKit

end Go.Proofs.YtidgeagpgllkeaaGreat

namespace Go.Proofs.YtidgeagpgllkeaaGreat
open Go.ChangeShapes Go.WideShapes Go.ChangeAt Go.RowKit
theorem cellsInts : Tryz.prog.cellsOf 37 = 1 := by kernel_rfl
section
variable {H : Type} {enc : TypeId × Value → H} {w : World} {base b0 : Nat} {spare : Nat → Bool} {held : Bool} {r : Reach} {v : Value} {d : DataW H} {ps : List MemPlace}
set_option maxRecDepth 4000 in
/-- Numbers. -/
theorem open_ints_ {fuel : Nat} {v : Value} {x : DataW H × List MemPlace} (h : DataW.trod enc Tryz.prog w base spare held fuel 37 [v] = some x) :
    ∃ A zs c, v = .slice A zs.length c ∧ (A = none → c = 0) ∧ Row w w.heap.size 1 A zs.length (intsC zs) ∧ (∀ p ∈ zs, I64 p) ∧ zs.length ≤ c ∧ c ≤ maxLen := by
  rcases Deep.open_slice Tryz.underlying37 h with ⟨h1, _⟩ | ⟨a, len, cap, m, n, D, Pl, h1, hb, hl, hm, hmm, _, hx⟩
  · simp at h1
    exact ⟨none, [], 0, h1, fun _ => rfl, Row.nil_, by simp, Nat.le_refl _, Nat.zero_le _⟩
  · have hv : v = .slice (some a) len cap := by simpa using h1
    have hlm : len ≤ m := by rw [hmm]; split <;> omega
    obtain ⟨F, hF⟩ := Deep.choose_lt (α := Int) (n := len) (p := fun i p => w.cell? (a.add i) = some (.int .i64 p) ∧ I64 p) (fun i hi => by
      obtain ⟨cs', c1, c2⟩ := hx i (by omega)
      rw [cells3, Nat.mul_one] at c1
      obtain ⟨z, hz, _, hw⟩ := DataW.trod_int Tryz.underlying3 c2
      subst hz
      have := (World.cells?_some c1).2.2 0 (by omega)
      refine ⟨z, ?_, bounds_i64 hw⟩
      have h0 : (a.add i).add 0 = a.add i := by unfold Addr.add; simp
      rw [h0] at this
      exact this)
    have hlen : ((List.range len).map F).length = len := by simp
    refine ⟨some a, (List.range len).map F, cap, by rw [hlen]; exact hv, (fun h => by cases h), ?_, fun p hp => ?_, by rw [hlen]; exact hl, hm⟩
    · refine ⟨by simp [intsC], fun hpos => ?_⟩
      rw [hlen] at hpos
      have h0 := (hF 0 hpos).1
      obtain ⟨g, o, s⟩ := a
      have hs : s = none := by
        cases s with
        | none => rfl
        | some s => unfold Addr.add at h0; simp [World.cell?] at h0; split at h0 <;> simp at h0
      subst hs
      refine ⟨g, o, rfl, ?_, fun j u hu => ?_⟩
      · have := World.block_lt_of_cell? _ _ h0
        rwa [block_of_add] at this
      · have hj : j < len := by
          have := (List.getElem?_eq_some_iff.1 hu).1
          simp [intsC] at this; exact this
        have hc := (hF j hj).1
        rw [Addr.add_lit] at hc
        rw [hc]
        simp [intsC, hj] at hu
        rw [hu]
    · obtain ⟨i, hi, rfl⟩ := List.mem_map.1 hp
      exact (hF i (List.mem_range.1 hi)).2
end
end Go.Proofs.YtidgeagpgllkeaaGreat
