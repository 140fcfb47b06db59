/- Plain definitions: what the functions of the package cover, and of its reference, compute. No program in sight. Contracts of the small functions of the packages cover and couplantbase: ranges, divisors, quotients, names. Contracts of the two tests whether a text is a name. -/
import Derived.Test.YtmdbpkomanhpoaaGreatDoorProg
import Derived.WalkKit
import Derived.WalkSpells
import Derived.WalkLawsBesides
import Derived.Lib.Hide
import Derived.BigQuiet
import Derived.Deep.QuietTactic
namespace Go.Proofs.YtmdbpkomanhpoaaGreatDoor

/-- Whether a number is from lo to hi. -/
def wi (n lo hi : Int) : Bool := decide (lo ≤ n) && decide (n ≤ hi)

def letterB (c : Int) : Bool := (decide (97 ≤ c) && decide (c ≤ 122)) || (decide (65 ≤ c) && decide (c ≤ 90))
def chB (i : Nat) (c : Int) : Bool := letterB c || (decide (i ≠ 0) && (decide (c = 45) || (decide (48 ≤ c) && decide (c ≤ 57))))
def allB : Nat → List UInt8 → Bool
  | _, [] => true
  | i, c :: l => chB i c.toNat && allB (i + 1) l
/-- Whether a text is a name. -/
def nameB (s : ByteArray) : Bool := allB 0 s.data.toList && decide (0 < s.size) && decide (s.size ≤ 12)

theorem allB_iff : ∀ (l : List UInt8) (i : Nat), allB i l = true ↔ ∀ k (h : k < l.length), chB (i + k) l[k].toNat = true
  | [], i => by simp [allB]
  | c :: l, i => by
    simp only [allB, Bool.and_eq_true, allB_iff l (i + 1)]
    constructor
    · rintro ⟨h1, h2⟩ k hk
      cases k with
      | zero => exact h1
      | succ k => have := h2 k (by simpa using hk); rw [show i + (k + 1) = i + 1 + k by omega]; simpa using this
    · intro h
      refine ⟨h 0 (by simp), fun k hk => ?_⟩
      have := h (k + 1) (by simpa using hk)
      rw [show i + 1 + k = i + (k + 1) by omega]; simpa using this

/-- The places of a face; a set-up. -/
structure Fc where
  fx : Int
  fz : Int
  tx : Int
  tz : Int
deriving DecidableEq

end Go.Proofs.YtmdbpkomanhpoaaGreatDoor

namespace Go.Proofs.YtmdbpkomanhpoaaGreatDoor
open Go.RowKit

set_option maxHeartbeats 400000 in
theorem within_any (n lo hi : Int) (w : World) :
    Calls Tryz.prog 122 #[.int .i64 n, .int .i64 lo, .int .i64 hi] w fun e w' => e = .returned (.bool (wi n lo hi)) ∧ w = w' := by
  go_enter Tryz.func122, Tryz.ntmps122
  go_wp2
  all_goals
    go_ret
    exact ⟨by simp [wi, *]; try omega, rfl⟩

set_option maxHeartbeats 400000 in
theorem small_any (n m : Int) (h0 : 0 ≤ m) (h1 : m ≤ 1000000000000) (w : World) :
    Calls Tryz.prog 83 #[.int .i64 n, .int .i64 m] w fun e w' => e = .returned (.bool (wi n (-m) m)) ∧ w = w' := by
  go_enter Tryz.func83, Tryz.ntmps83
  go_wp2_with (go_at_call 122; refine (within_any _ _ _ _).mono ?_; rintro e w' ⟨rfl, rfl⟩)
  go_ret
  exact ⟨rfl, rfl⟩

theorem below_drewN' {B : Nat} {a w : World} (h : Below B a w) (n : Nat) : Below B a (w.drewN n) := ⟨h.os, h.tape, h.output, h.size, h.block⟩

theorem bcell {W w1 : World} (hb : Below W.heap.size W w1) : (∀ b o, b < W.heap.size → w1.cell? ⟨b, o, none⟩ = W.cell? ⟨b, o, none⟩) ∧ (∀ b o, b < W.heap.size → w1.frozen? ⟨b, o, none⟩ = W.frozen? ⟨b, o, none⟩) :=
  ⟨fun b o h => hb.cell (p := ⟨b, o, none⟩) h, fun b o h => hb.frozen (p := ⟨b, o, none⟩) h⟩

/-! ### quotients -/

/-! ### the greatest common divisor -/

end Go.Proofs.YtmdbpkomanhpoaaGreatDoor

namespace Go.Proofs.YtmdbpkomanhpoaaGreatDoor
open Go.RowKit

/-! ### names -/
theorem bytesRow_cell (s : ByteArray) (cap k : Nat) (h : k < s.size) : (bytesRow s cap)[k]? = some (.int .u8 (s[k].toNat : Int)) := by
  have h' : k < s.data.size := h
  unfold bytesRow
  rw [Array.getElem?_append_left (by simpa using h'), Array.getElem?_map, Array.getElem?_eq_getElem h']
  rfl

/-- What '[]byte(s)' gives, its world under a name. -/
theorem bytes_of (s : ByteArray) (w : World) : ∃ (cap : Nat) (W1 : World), (convert 9 83 (.string s)).run Tryz.prog w = .ok (.slice (some ⟨w.heap.size, 0, none⟩) s.size cap) W1 ∧
    (∀ k (h : k < s.size), W1.cell? ⟨w.heap.size, k, none⟩ = some (.int .u8 (s[k].toNat : Int))) ∧ Below w.heap.size w W1 := by
  refine ⟨_, _, run_bytes_of_string (P := Tryz.prog) w 9 83 5 s Tryz.underlying9 Tryz.underlying83 Tryz.underlying5, fun k h => ?_, ((Below.refl _ _).drew).alloc (Nat.le_refl _) _⟩
  have hb : ∀ o : Obj, (w.drew.alloc o).heap[w.heap.size]? = some o := fun o => by
    show (w.heap.push o)[w.heap.size]? = _
    simp
  unfold World.cell?
  rw [hb]
  exact bytesRow_cell s _ k h

theorem toList_empty (s : ByteArray) : s.toList = [] ↔ s.size = 0 := by
  rw [toList_nil_iff_emptyBytes]
  constructor
  · rintro rfl; rfl
  · intro h; exact ByteArray.ext (Array.eq_empty_of_size_eq_zero h)

theorem nameB_false {s : ByteArray} {k : Nat} (h : k < s.size) (hc : chB k s[k].toNat = false) : nameB s = false := by
  unfold nameB
  cases hb : allB 0 s.data.toList with
  | false => simp
  | true =>
    have h2 := (allB_iff _ _).1 hb k (by simpa using h)
    rw [Nat.zero_add] at h2
    exact absurd (h2.symm.trans hc) (by simp)
theorem allB_true {s : ByteArray} (h : ∀ k (hk : k < s.size), chB k s[k].toNat = true) : allB 0 s.data.toList = true :=
  (allB_iff _ _).2 fun k hk => by rw [Nat.zero_add]; exact h k (by simpa using hk)

end Go.Proofs.YtmdbpkomanhpoaaGreatDoor
