/- Plain definitions: what the functions of the package cover, and of its reference, compute. No program in sight. Contracts of the small functions of the packages cover and couplantbase: ranges, divisors, quotients, names. Contracts of the two tests whether a text is a name. -/
import Derived.Test.YtaekcfancfoccaaGreatDoorProg
import Derived.WalkKit
import Derived.WalkSpells
import Derived.WalkLawsBesides
import Derived.Lib.Hide
import Derived.BigQuiet
import Derived.Deep.QuietTactic
namespace Go.Proofs.YtaekcfancfoccaaGreatDoor

def wi (n lo hi : Int) : Bool := decide (lo ≤ n) && decide (n ≤ hi)

def letterB (c : Int) : Bool := (decide (97 ≤ c) && decide (c ≤ 122)) || (decide (65 ≤ c) && decide (c ≤ 90))
def chB (i : Nat) (c : Int) : Bool := letterB c || (decide (i ≠ 0) && (decide (c = 45) || (decide (48 ≤ c) && decide (c ≤ 57))))
def allB : Nat → List UInt8 → Bool
  | _, [] => true
  | i, c :: l => chB i c.toNat && allB (i + 1) l
def nameB (s : ByteArray) : Bool := allB 0 s.data.toList && decide (0 < s.size) && decide (s.size ≤ 12)

theorem allB_iff : ∀ (l : List UInt8) (i : Nat), allB i l = true ↔ ∀ k (h : k < l.length), chB (i + k) l[k].toNat = true
  | [], i => by simp [allB]
  | c :: l, i => by
    simp only [allB, Bool.and_eq_true, allB_iff l (i + 1)]
    constructor
    · rintro ⟨h1, h2⟩ k hk
      cases k with
      | zero => exact h1
      | succ k => have := h2 k (by simpa using hk); rw [show i + (k + 1) = i + 1 + k by omega]; simpa using this
    · intro h
      refine ⟨h 0 (by simp), fun k hk => ?_⟩
      have := h (k + 1) (by simpa using hk)
      rw [show i + 1 + k = i + (k + 1) by omega]; simpa using this

def lowB (n d : Int) : Bool := decide (0 < d) && decide (Int.gcd n d = 1)
def tanE (n d : Int) : Int := if lowB n d then (if wi n 0 100 && decide (d ≤ 100) then 0 else 2) else 3

def cmpI (x y : Int) : Int := if x < y then -1 else if y < x then 1 else 0

def shN (n d : Int) : Int := n / (Int.gcd n d)
def shD (n d : Int) : Int := d / (Int.gcd n d)

structure PV where
  a : Int
  b : Int
  c : Int
  d : Int
  none : Bool
  up : Bool
deriving DecidableEq

def PV.shut (p : PV) : PV := { p with none := p.none || decide (0 < cmpI (p.a * p.d) (p.c * p.b)) }
def PV.frm (p : PV) (n m : Int) : PV := PV.shut (if decide (0 < cmpI (n * p.b) (p.a * m)) then { p with a := n, b := m } else p)
def PV.to (p : PV) (n m : Int) : PV := PV.shut (if decide (cmpI (n * p.d) (p.c * m) < 0) then { p with c := n, d := m } else p)
def PV.cut (p : PV) (n m : Int) : PV :=
  if m = 0 then { p with none := p.none || decide (n < 0) }
  else if 0 < m ∧ n < 0 then p.frm (shN (-n) m) (shD (-n) m)
  else if m < 0 ∧ n < 0 then { p with none := true }
  else if m < 0 then p.to (shN n (-m)) (shD n (-m))
  else p

structure Fc where
  fx : Int
  fz : Int
  tx : Int
  tz : Int
deriving DecidableEq
structure Su where
  at_ : Int
  side : Int
  legs : Int
  ln : Int
  ld : Int
  mn : Int
  md : Int
  tn : Int
  td : Int
deriving DecidableEq

def metW (wx wz dx dz : Int) (s : Su) : PV :=
  let k := wx * dz - wz * dx
  if k = 0 then ⟨0, 1, 1, 1, true, false⟩
  else
    let p1 : PV := ⟨0, 1, 1, 1, false, decide (0 < k)⟩
    let p2 := p1.cut (s.side * dx * s.ld - dz * s.ln) (s.side * wx * s.ld - wz * s.ln)
    let p3 := p2.cut (dz * s.mn - s.side * dx * s.md) (wz * s.mn - s.side * wx * s.md)
    let K := max k (-k) * s.tn
    let p4 := p3.cut (K - (wx * dx + wz * dz) * s.td) (-1 * (wx * wx + wz * wz) * s.td)
    p4.cut (K - -1 * (wx * dx + wz * dz) * s.td) ((wx * wx + wz * wz) * s.td)
def metV (thick : Int) (f : Fc) (s : Su) : PV :=
  if s.legs = 2 then metW (f.tx - f.fx) ((2 * thick - f.tz) - (2 * thick - f.fz)) (f.fx - s.at_) (2 * thick - f.fz) s
  else metW (f.tx - f.fx) (f.tz - f.fz) (f.fx - s.at_) f.fz s
end Go.Proofs.YtaekcfancfoccaaGreatDoor

namespace Go.Proofs.YtaekcfancfoccaaGreatDoor
open Go.RowKit

set_option maxHeartbeats 400000 in
theorem within_any (n lo hi : Int) (w : World) :
    Calls Tryz.prog 58 #[.int .i64 n, .int .i64 lo, .int .i64 hi] w fun e w' => e = .returned (.bool (wi n lo hi)) ∧ w = w' := by
  go_enter Tryz.func58, Tryz.ntmps58
  go_wp2
  all_goals
    go_ret
    exact ⟨by simp [wi, *]; try omega, rfl⟩

set_option maxHeartbeats 400000 in
theorem bWithin_any (n lo hi : Int) (w : World) :
    Calls Tryz.prog 36 #[.int .i64 n, .int .i64 lo, .int .i64 hi] w fun e w' => e = .returned (.bool (wi n lo hi)) ∧ w = w' := by
  go_enter Tryz.func36, Tryz.ntmps36
  go_wp2
  all_goals
    go_ret
    exact ⟨by simp [wi, *]; try omega, rfl⟩

set_option maxHeartbeats 400000 in
theorem small_any (n m : Int) (h0 : 0 ≤ m) (h1 : m ≤ 1000000000000) (w : World) :
    Calls Tryz.prog 57 #[.int .i64 n, .int .i64 m] w fun e w' => e = .returned (.bool (wi n (-m) m)) ∧ w = w' := by
  go_enter Tryz.func57, Tryz.ntmps57
  go_wp2_with (go_at_call 58; refine (within_any _ _ _ _).mono ?_; rintro e w' ⟨rfl, rfl⟩)
  go_ret
  exact ⟨rfl, rfl⟩

theorem below_drewN' {B : Nat} {a w : World} (h : Below B a w) (n : Nat) : Below B a (w.drewN n) := ⟨h.os, h.tape, h.output, h.size, h.block⟩

theorem bcell {W w1 : World} (hb : Below W.heap.size W w1) : (∀ b o, b < W.heap.size → w1.cell? ⟨b, o, none⟩ = W.cell? ⟨b, o, none⟩) ∧ (∀ b o, b < W.heap.size → w1.frozen? ⟨b, o, none⟩ = W.frozen? ⟨b, o, none⟩) :=
  ⟨fun b o h => hb.cell (p := ⟨b, o, none⟩) h, fun b o h => hb.frozen (p := ⟨b, o, none⟩) h⟩

/-! ### quotients -/
theorem td_bd (n d : Int) : -(n.natAbs : Int) ≤ n.tdiv d ∧ n.tdiv d ≤ n.natAbs := by
  have h : (n.tdiv d).natAbs = n.natAbs / d.natAbs := Int.natAbs_tdiv n d
  have := Nat.div_le_self n.natAbs d.natAbs
  omega

/-! ### the greatest common divisor -/
theorem gcd_zero_max (p : Int) : ((Int.gcd p 0 : Nat) : Int) = max p (-p) := by
  simp
  omega
theorem gcd_step (p q : Int) : Int.gcd q (p.tmod q) = Int.gcd p q := by
  simp only [Int.gcd, Int.natAbs_tmod]
  rw [Nat.gcd_comm q.natAbs, ← Nat.gcd_rec, Nat.gcd_comm]
theorem tmod_bound (p q : Int) (hq : q ≠ 0) : (p.tmod q).natAbs < q.natAbs := by
  rw [Int.natAbs_tmod]; exact Nat.mod_lt _ (by omega)
set_option maxHeartbeats 400000 in
theorem divisor_any (a b : Int) (ha : -9223372036854775808 ≤ a ∧ a ≤ 9223372036854775807) (hb : -9223372036854775807 ≤ b ∧ b ≤ 9223372036854775807) (hab : b = 0 → -9223372036854775807 ≤ a) (w : World) :
    Calls Tryz.prog 118 #[.int .i64 a, .int .i64 b] w fun e w' => e = .returned (.int .i64 (Int.gcd a b)) ∧ Below w.heap.size w w' := by
  have HAB := Lib.hid hab; clear hab
  go_enter Tryz.func118, Tryz.ntmps118
  go_wp2
  go_loopw [0, 1] (fun x y wr => ∃ p q : Int, x = .int .i64 p ∧ y = .int .i64 q ∧ (-9223372036854775808 ≤ p ∧ p ≤ 9223372036854775807) ∧ (-9223372036854775807 ≤ q ∧ q ≤ 9223372036854775807) ∧ Hid (q = 0 → -9223372036854775807 ≤ p) ∧ Int.gcd p q = Int.gcd a b ∧ Below w.heap.size w wr) (fun _ y _ => (intOf y).natAbs)
  case atStart => exact ⟨a, b, rfl, rfl, ha, hb, HAB, rfl, Below.refl _ _⟩
  case round =>
    obtain ⟨p, q, rfl, rfl, hp, hq, hpq, hg, hB⟩ := hrel
    have HG := Lib.hid hg; clear hg
    by_cases h0 : q = 0
    · subst h0
      have hp' := hpq.out rfl
      have HE : Hid ((Int.gcd a b : Int) = max p (-p)) := by rw [← HG.out]; exact gcd_zero_max p
      go_wp2
      all_goals
        go_ret
        refine ⟨?_, hB⟩
        rw [HE.out]
        show Ending.returned (Value.int .i64 _) = _
        congr 2
        omega
    · have h0' : (q != 0) = true := by simpa using h0
      have h0'' : (q == 0) = false := by simpa using h0
      have hm := tmod_bound p q h0
      go_wp2
      go_quiet (fail)
      go_wp2
      refine ⟨⟨q, p.tmod q, rfl, rfl, by omega, by omega, fun _ => by omega, by rw [← HG.out]; exact gcd_step p q, below_drewN' hB _⟩, by show (p.tmod q).natAbs < q.natAbs; exact hm⟩
set_option maxHeartbeats 400000 in
theorem size_any (n : Int) (h : -9223372036854775807 ≤ n ∧ n ≤ 9223372036854775807) (w : World) :
    Calls Tryz.prog 81 #[.int .i64 n] w fun e w' => e = .returned (.int .i64 (max n (-n))) ∧ w = w' := by
  go_enter Tryz.func81, Tryz.ntmps81
  go_wp2
  all_goals
    go_ret
    refine ⟨?_, rfl⟩
    show Ending.returned (Value.int .i64 _) = _
    congr 2
    omega

end Go.Proofs.YtaekcfancfoccaaGreatDoor

namespace Go.Proofs.YtaekcfancfoccaaGreatDoor
open Go.RowKit

/-! ### names -/
theorem bytesRow_cell (s : ByteArray) (cap k : Nat) (h : k < s.size) : (bytesRow s cap)[k]? = some (.int .u8 (s[k].toNat : Int)) := by
  have h' : k < s.data.size := h
  unfold bytesRow
  rw [Array.getElem?_append_left (by simpa using h'), Array.getElem?_map, Array.getElem?_eq_getElem h']
  rfl

theorem bytes_of (s : ByteArray) (w : World) : ∃ (cap : Nat) (W1 : World), (convert 9 86 (.string s)).run Tryz.prog w = .ok (.slice (some ⟨w.heap.size, 0, none⟩) s.size cap) W1 ∧
    (∀ k (h : k < s.size), W1.cell? ⟨w.heap.size, k, none⟩ = some (.int .u8 (s[k].toNat : Int))) ∧ Below w.heap.size w W1 := by
  refine ⟨_, _, run_bytes_of_string (P := Tryz.prog) w 9 86 5 s Tryz.underlying9 Tryz.underlying86 Tryz.underlying5, fun k h => ?_, ((Below.refl _ _).drew).alloc (Nat.le_refl _) _⟩
  have hb : ∀ o : Obj, (w.drew.alloc o).heap[w.heap.size]? = some o := fun o => by
    show (w.heap.push o)[w.heap.size]? = _
    simp
  unfold World.cell?
  rw [hb]
  exact bytesRow_cell s _ k h

theorem toList_empty (s : ByteArray) : s.toList = [] ↔ s.size = 0 := by
  rw [toList_nil_iff_emptyBytes]
  constructor
  · rintro rfl; rfl
  · intro h; exact ByteArray.ext (Array.eq_empty_of_size_eq_zero h)

theorem nameB_false {s : ByteArray} {k : Nat} (h : k < s.size) (hc : chB k s[k].toNat = false) : nameB s = false := by
  unfold nameB
  cases hb : allB 0 s.data.toList with
  | false => simp
  | true =>
    have h2 := (allB_iff _ _).1 hb k (by simpa using h)
    rw [Nat.zero_add] at h2
    exact absurd (h2.symm.trans hc) (by simp)
theorem allB_true {s : ByteArray} (h : ∀ k (hk : k < s.size), chB k s[k].toNat = true) : allB 0 s.data.toList = true :=
  (allB_iff _ _).2 fun k hk => by rw [Nat.zero_add]; exact h k (by simpa using hk)

set_option maxHeartbeats 400000 in
theorem isName_any (s : ByteArray) (w : World) (hs : s.size ≤ 1000000000000) :
    Calls Tryz.prog 56 #[.string s] w fun e w' => e = .returned (.bool (nameB s)) ∧ Below w.heap.size w w' := by
  obtain ⟨cap, W1, hconv, hcells, hB⟩ := bytes_of s w
  have HC := Lib.hid hcells; clear hcells
  go_enter Tryz.func56, Tryz.ntmps56
  go_wp2
  clear hconv
  go_loop [9] (fun i => ∃ k : Nat, k ≤ s.size ∧ i = .int .i64 k ∧ Hid (∀ j (h : j < s.size), j < k → chB j s[j].toNat = true)) (fun i => s.size - (intOf i).toNat)
  case atStart => exact ⟨0, Nat.zero_le _, rfl, fun j _ h => by omega⟩
  case round =>
    obtain ⟨k, hk, rfl, HK⟩ := hrel
    by_cases hlt : k < s.size
    · have hc := HC.out k hlt
      have hb : 0 ≤ (s[k].toNat : Int) ∧ (s[k].toNat : Int) < 256 := ⟨by omega, by have := s[k].toNat_lt; omega⟩
      generalize hcc : (s[k].toNat : Int) = c at hc hb
      have HCC := Lib.hid hcc; clear hcc
      have hyes : chB k c = true → (∃ k_1 : Nat, k_1 ≤ s.size ∧ Value.int IntKind.i64 (↑k + 1) = Value.int IntKind.i64 ↑k_1 ∧ Hid (∀ (j : Nat) (h : j < s.size), j < k_1 → chB j ↑s[j].toNat = true)) := fun hch =>
        ⟨k + 1, by omega, by go_num, fun j hj hjk => by
          by_cases e : j = k
          · subst e; rw [HCC.out]; exact hch
          · exact HK.out j hj (by omega)⟩
      have hno : chB k c = false → nameB s = false := fun hch => nameB_false hlt (by rw [HCC.out]; exact hch)
      have HY := Lib.hid hyes; have HN := Lib.hid hno; clear hyes hno
      go_wp2
      all_goals first
        | (go_ret
           refine ⟨?_, hB⟩
           rw [HN.out (by grind [chB, letterB])]
           rfl)
        | (refine ⟨?_, by simp [intOf]; omega⟩
           first
             | exact HY.out (by grind [chB, letterB])
             | (obtain rfl : k = 0 := by assumption
                exact HY.out (by grind [chB, letterB])))
    · obtain rfl : k = s.size := by omega
      have hall : allB 0 s.data.toList = true := allB_true fun j hj => HK.out j hj hj
      have hE : nameB s = (decide (0 < s.size) && decide (s.size ≤ 12)) := by unfold nameB; rw [hall]; simp
      have HE := Lib.hid hE; clear hE hall
      go_wp2
      · have h0 : s.size = 0 := (toList_empty s).1 (by assumption)
        go_ret
        exact ⟨by rw [HE.out, h0]; rfl, hB⟩
      · have h0 : ¬ s.size = 0 := fun h => absurd ((toList_empty s).2 h) (by assumption)
        have h1 : s.toList.isEmpty = false := by cases hl : s.toList with | nil => exact absurd ((toList_empty s).1 hl) h0 | cons => rfl
        go_ret
        refine ⟨?_, hB⟩
        show Ending.returned (Value.bool _) = _
        rw [HE.out, h1]
        congr 2
        grind

set_option maxHeartbeats 400000 in
theorem bIsName_any (s : ByteArray) (w : World) (hs : s.size ≤ 1000000000000) :
    Calls Tryz.prog 35 #[.string s] w fun e w' => e = .returned (.bool (nameB s)) ∧ w = w' := by
  by_cases hbad : s.size < 1 ∨ 12 < s.size
  · have hE : nameB s = false := by unfold nameB; grind
    have HE := Lib.hid hE; clear hE
    go_enter Tryz.func35, Tryz.ntmps35
    go_wp2
    all_goals
      go_ret
      exact ⟨by rw [HE.out]; rfl, rfl⟩
  · have hlo : 1 ≤ s.size := by omega
    have hhi : s.size ≤ 12 := by omega
    have hd1 : decide ((s.size : Int) < 1) = false := by simp; omega
    have hd2 : decide (12 < (s.size : Int)) = false := by simp; omega
    clear hbad
    go_enter Tryz.func35, Tryz.ntmps35
    go_wp2
    go_loop [3] (fun i => ∃ k : Nat, k ≤ s.size ∧ i = .int .i64 k ∧ Hid (∀ j (h : j < s.size), j < k → chB j s[j].toNat = true)) (fun i => s.size - (intOf i).toNat)
    case atStart => exact ⟨0, Nat.zero_le _, rfl, fun j _ h => by omega⟩
    case round =>
      obtain ⟨k, hk, rfl, HK⟩ := hrel
      by_cases hlt : k < s.size
      · obtain ⟨u, hu⟩ : ∃ u, s[k] = u := ⟨_, rfl⟩
        have hb : 0 ≤ (u.toNat : Int) ∧ (u.toNat : Int) < 256 := ⟨by omega, by have := u.toNat_lt; omega⟩
        have hyes : chB k u.toNat = true → (∃ k_1 : Nat, k_1 ≤ s.size ∧ Value.int IntKind.i64 (↑k + 1) = Value.int IntKind.i64 ↑k_1 ∧ Hid (∀ (j : Nat) (h : j < s.size), j < k_1 → chB j ↑s[j].toNat = true)) := fun hch =>
          ⟨k + 1, by omega, by go_num, fun j hj hjk => by
            by_cases e : j = k
            · subst e; rw [hu]; exact hch
            · exact HK.out j hj (by omega)⟩
        have hno : chB k u.toNat = false → nameB s = false := fun hch => nameB_false hlt (by rw [hu]; exact hch)
        have HY := Lib.hid hyes; have HN := Lib.hid hno; clear hyes hno
        go_wp2
        all_goals clear hu
        all_goals first
          | (go_ret
             refine ⟨?_, rfl⟩
             rw [HN.out (by grind [chB, letterB])]
             rfl)
          | (refine ⟨?_, by simp [intOf]; omega⟩
             first
               | exact HY.out (by grind [chB, letterB])
               | (obtain rfl : k = 0 := by assumption
                  exact HY.out (by grind [chB, letterB])))
      · obtain rfl : k = s.size := by omega
        have hall : allB 0 s.data.toList = true := allB_true fun j hj => HK.out j hj hj
        have hE : nameB s = true := by unfold nameB; rw [hall]; grind
        have HE := Lib.hid hE; clear hE hall
        go_wp2
        go_ret
        exact ⟨by rw [HE.out]; rfl, rfl⟩
end Go.Proofs.YtaekcfancfoccaaGreatDoor
