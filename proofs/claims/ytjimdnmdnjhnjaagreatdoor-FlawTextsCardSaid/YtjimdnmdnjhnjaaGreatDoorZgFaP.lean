/- Plain definitions: what the functions of the package flaw, and of its reference, compute. No program in sight. Plain law: the square root of a number from 0 to 2^58 as a float, made whole, lies from 0 to 2^31. -/
import Derived.WalkKit
namespace Go.Proofs.YtjimdnmdnjhnjaaGreatDoor

/-- Whether a number is from lo to hi. -/
def wi (n lo hi : Int) : Bool := decide (lo ≤ n) && decide (n ≤ hi)

def letterB (c : Int) : Bool := (decide (97 ≤ c) && decide (c ≤ 122)) || (decide (65 ≤ c) && decide (c ≤ 90))
def chB (i : Nat) (c : Int) : Bool := letterB c || (decide (i ≠ 0) && (decide (c = 45) || (decide (48 ≤ c) && decide (c ≤ 57))))
def allB : Nat → List UInt8 → Bool
  | _, [] => true
  | i, c :: l => chB i c.toNat && allB (i + 1) l
/-- Whether a text is a name. -/
def nameB (s : ByteArray) : Bool := allB 0 s.data.toList && decide (0 < s.size) && decide (s.size ≤ 12)

theorem allB_iff : ∀ (l : List UInt8) (i : Nat), allB i l = true ↔ ∀ k (h : k < l.length), chB (i + k) l[k].toNat = true
  | [], i => by simp [allB]
  | c :: l, i => by
    simp only [allB, Bool.and_eq_true, allB_iff l (i + 1)]
    constructor
    · rintro ⟨h1, h2⟩ k hk
      cases k with
      | zero => exact h1
      | succ k => have := h2 k (by simpa using hk); rw [show i + (k + 1) = i + 1 + k by omega]; simpa using this
    · intro h
      refine ⟨h 0 (by simp), fun k hk => ?_⟩
      have := h (k + 1) (by simpa using hk)
      rw [show i + 1 + k = i + (k + 1) by omega]; simpa using this

/-- Whether a fraction is in lowest terms. -/
def lowB (n d : Int) : Bool := decide (0 < d) && decide (Int.gcd n d = 1)

/-! ### roots -/
def isqN : Nat → Nat
  | 0 => 0
  | n + 1 => if (isqN n + 1) * (isqN n + 1) ≤ n + 1 then isqN n + 1 else isqN n
theorem isqN_spec : ∀ n : Nat, isqN n * isqN n ≤ n ∧ n < (isqN n + 1) * (isqN n + 1)
  | 0 => by simp [isqN]
  | n + 1 => by
    have h := isqN_spec n
    unfold isqN
    split
    · rename_i h1
      refine ⟨h1, ?_⟩
      have e : (isqN n + 1 + 1) * (isqN n + 1 + 1) = (isqN n + 1) * (isqN n + 1) + 2 * (isqN n + 1) + 1 := by rw [Nat.add_mul, Nat.mul_add]; omega
      omega
    · omega
theorem sq_lt {a b : Nat} (h : a * a < b * b) : a < b := by
  rcases Nat.lt_or_ge a b with h1 | h1
  · exact h1
  · exact absurd h (by have := Nat.mul_le_mul h1 h1; omega)
theorem isqN_eq {n r : Nat} (h1 : r * r ≤ n) (h2 : n < (r + 1) * (r + 1)) : isqN n = r := by
  have h := isqN_spec n
  have a := sq_lt (Nat.lt_of_le_of_lt h.1 h2)
  have b := sq_lt (Nat.lt_of_le_of_lt h1 h.2)
  omega
/-- The greatest number whose square is at most n; of a number below 0: 0. -/
def isq (n : Int) : Int := isqN n.toNat
theorem isq_nonneg (n : Int) : 0 ≤ isq n := by unfold isq; omega
theorem isq_le {n : Int} (h : 0 ≤ n) : isq n * isq n ≤ n := by
  have := (isqN_spec n.toNat).1
  unfold isq
  have e : ((isqN n.toNat * isqN n.toNat : Nat) : Int) ≤ (n.toNat : Int) := Int.ofNat_le.2 this
  rw [Int.natCast_mul] at e
  omega
theorem lt_isq {n : Int} (h : 0 ≤ n) : n < (isq n + 1) * (isq n + 1) := by
  have := (isqN_spec n.toNat).2
  unfold isq
  have e : (n.toNat : Int) < (((isqN n.toNat + 1) * (isqN n.toNat + 1) : Nat) : Int) := Int.ofNat_lt.2 this
  rw [Int.natCast_mul] at e
  simp only [Int.natCast_add, Int.natCast_one] at e
  omega
theorem isq_eq {n r : Int} (h0 : 0 ≤ r) (h1 : r * r ≤ n) (h2 : n < (r + 1) * (r + 1)) : isq n = r := by
  obtain ⟨k, rfl⟩ := Int.eq_ofNat_of_zero_le h0
  have hn : 0 ≤ n := by have := Int.mul_nonneg h0 h0; omega
  obtain ⟨m, rfl⟩ := Int.eq_ofNat_of_zero_le hn
  unfold isq
  have a : k * k ≤ m := by exact_mod_cast h1
  have b : m < (k + 1) * (k + 1) := by exact_mod_cast h2
  rw [Int.toNat_natCast, isqN_eq a b]
/-- The least number whose square is at least n. -/
def isqUp (n : Int) : Int := if isq n * isq n < n then isq n + 1 else isq n

/-! ### errors -/
def unlessE (b : Bool) (e : Int) : Int := if b then 0 else e
def firstE : List Int → Int
  | [] => 0
  | e :: l => if e = 0 then firstE l else e
theorem firstE_zero : ∀ l : List Int, firstE l = 0 ↔ ∀ e ∈ l, e = 0
  | [] => by simp [firstE]
  | e :: l => by
    unfold firstE
    split
    · rename_i h; simp [firstE_zero l, h]
    · rename_i h; simp [h]
/-- The error of a level; of a range with ends from lo to hi. -/
def levelE (n : Int) : Int := unlessE (wi n 0 1000000000) 2
def rangeE (a b lo hi : Int) : Int := if wi a lo hi && wi b lo hi then (if a ≤ b then 0 else 9) else 2

/-! ### tips -/
structure Tip where
  tl : Int
  th : Int
  ol : Int
  oh : Int
  sp : Int
/-- A range, or an error. -/
structure RE where
  lo : Int
  hi : Int
  e : Int
def tipE (x : Tip) : Int := firstE [rangeE x.tl x.th 0 1000000000000, rangeE x.ol x.oh 0 100000, unlessE (wi x.sp 500 10000) 2]
def tipLo (x : Tip) : Int := max 0 ((x.tl * x.sp / 20000000) * (x.tl * x.sp / 20000000) - x.oh * x.oh)
def tipHi (x : Tip) : Int := ((x.th * x.sp + 20000000 - 1) / 20000000) * ((x.th * x.sp + 20000000 - 1) / 20000000) - x.ol * x.ol
def tipV (x : Tip) : RE :=
  if tipE x = 0 then (if tipHi x < 0 then ⟨0, 0, 12⟩ else ⟨isq (tipLo x), isqUp (tipHi x), 0⟩) else ⟨0, 0, tipE x⟩
theorem rangeE_zero {a b lo hi : Int} (h : rangeE a b lo hi = 0) : lo ≤ a ∧ a ≤ b ∧ b ≤ hi := by
  unfold rangeE wi at h
  split at h
  · rename_i h1
    simp at h1
    split at h
    · omega
    · simp at h
  · simp at h
theorem unlessE_zero {b : Bool} {e : Int} (he : e ≠ 0) (h : unlessE b e = 0) : b = true := by
  unfold unlessE at h
  split at h
  · assumption
  · exact absurd h he
theorem tipE_zero {x : Tip} (h : tipE x = 0) : 0 ≤ x.tl ∧ x.tl ≤ x.th ∧ x.th ≤ 1000000000000 ∧ 0 ≤ x.ol ∧ x.ol ≤ x.oh ∧ x.oh ≤ 100000 ∧ 500 ≤ x.sp ∧ x.sp ≤ 10000 := by
  have := (firstE_zero _).1 h
  have h1 := rangeE_zero (this _ (by simp : rangeE x.tl x.th 0 1000000000000 ∈ _))
  have h2 := rangeE_zero (this _ (by simp : rangeE x.ol x.oh 0 100000 ∈ _))
  have h3 := unlessE_zero (by decide) (this _ (by simp : unlessE (wi x.sp 500 10000) 2 ∈ _))
  simp [wi] at h3
  omega
end Go.Proofs.YtjimdnmdnjhnjaaGreatDoor

namespace Go.Proofs.YtjimdnmdnjhnjaaGreatDoor.Flt
open Ieee

theorem cut_zero_drop (way : Toward) (n : Nat) (hw : way = .even ∨ way = .zero) : way.cut false n 0 = n := by
  unfold Toward.cut
  simp only [Nat.zero_min, Nat.shiftLeft_zero, Nat.div_one, Nat.mod_one, Nat.mul_zero]
  rcases hw with rfl | rfl <;> simp

theorem kept_bounds (mag : Nat) (h : mag ≠ 0) :
    let s := ((0 : Int) - ((0 : Int) + (mag.log2 : Int) - 52)).toNat
    let d := ((0 : Int) + (mag.log2 : Int) - 52 - 0).toNat
    4503599627370496 ≤ Toward.even.cut false (mag <<< s) d ∧ Toward.even.cut false (mag <<< s) d ≤ 9007199254740992 := by
  have h1 := Nat.log2_self_le h
  have h2 := @Nat.lt_log2_self mag
  generalize hL : mag.log2 = L at h1 h2 ⊢
  dsimp only
  by_cases hle : L ≤ 52
  · have es : ((0 : Int) - (0 + (L : Int) - 52)).toNat = 52 - L := by omega
    have ed : ((0 : Int) + (L : Int) - 52 - 0).toNat = 0 := by omega
    rw [es, ed, cut_zero_drop _ _ (.inl rfl), Nat.shiftLeft_eq]
    have e1 : (2 : Nat) ^ L * 2 ^ (52 - L) = 4503599627370496 := by rw [← Nat.pow_add, show L + (52 - L) = 52 by omega]
    have e2 : (2 : Nat) ^ (L + 1) * 2 ^ (52 - L) = 9007199254740992 := by rw [← Nat.pow_add, show L + 1 + (52 - L) = 53 by omega]
    have p := Nat.two_pow_pos (52 - L)
    exact ⟨by rw [← e1]; exact Nat.mul_le_mul_right _ h1, by rw [← e2]; exact Nat.mul_le_mul_right _ (Nat.le_of_lt h2)⟩
  · have es : ((0 : Int) - (0 + (L : Int) - 52)).toNat = 0 := by omega
    have ed : ((0 : Int) + (L : Int) - 52 - 0).toNat = L - 52 := by omega
    rw [es, ed, Nat.shiftLeft_zero]
    unfold Toward.cut
    rw [hL, show min (L - 52) (L + 2) = L - 52 by omega, Nat.one_shiftLeft]
    have e1 : (2 : Nat) ^ L = 4503599627370496 * 2 ^ (L - 52) := by rw [show (4503599627370496 : Nat) = 2 ^ 52 from rfl, ← Nat.pow_add, show 52 + (L - 52) = L by omega]
    have e2 : (2 : Nat) ^ (L + 1) = 9007199254740992 * 2 ^ (L - 52) := by rw [show (9007199254740992 : Nat) = 2 ^ 53 from rfl, ← Nat.pow_add, show 53 + (L - 52) = L + 1 by omega]
    have p := Nat.two_pow_pos (L - 52)
    have l1 : 4503599627370496 ≤ mag / 2 ^ (L - 52) := (Nat.le_div_iff_mul_le p).2 (by rw [← e1]; exact h1)
    have l2 : mag / 2 ^ (L - 52) < 9007199254740992 := (Nat.div_lt_iff_lt_mul p).2 (by rw [← e2]; exact h2)
    dsimp only
    constructor
    · omega
    · exact Nat.le_trans (Nat.add_le_add_left (Bool.toNat_le _) _) (by omega)

theorem rung_bd (E kept : Nat) (hE : E ≤ 1922) (k2 : kept ≤ 9007199254740992) : E * 4503599627370496 + kept ≤ 9218868437227405311 := by omega
theorem rung_div (E kept : Nat) (k1 : 4503599627370496 ≤ kept) (k2 : kept ≤ 9007199254740992) : ∃ d r : Nat, (E * 4503599627370496 + kept) / 4503599627370496 = d ∧ (E * 4503599627370496 + kept) % 4503599627370496 = r ∧ r < 4503599627370496 ∧ (d = E + 1 ∨ d = E + 2) := by
  refine ⟨_, _, rfl, rfl, Nat.mod_lt _ (by decide), ?_⟩
  have e : (E * 4503599627370496 + kept) / 4503599627370496 = E + kept / 4503599627370496 := by
    rw [Nat.add_comm, Nat.add_mul_div_right _ _ (by decide), Nat.add_comm]
  rw [e]
  omega
theorem lp_eq : double.leastPlace = -1074 := rfl
theorem fb_eq : double.fractionBits = 52 := rfl
theorem bin_eq : double.binade = 4503599627370496 := rfl
theorem inf_eq : double.infRung = 9218868437227405312 := rfl
theorem sw_eq : double.signWeight = 9223372036854775808 := rfl
theorem read_rung (rung d r : Nat) (h : rung ≤ 9218868437227405311) (hb : 4503599627370496 ≤ rung) (hd : rung / 4503599627370496 = d) (hr : rung % 4503599627370496 = r) :
    double.read (double.word false rung) = .number false (4503599627370496 + r) (-1074 + ((d - 1 : Nat) : Int)) := by
  have h1 : rung / 9223372036854775808 = 0 := Nat.div_eq_of_lt (Nat.lt_of_le_of_lt h (by decide))
  have h2 : rung % 9223372036854775808 = rung := Nat.mod_eq_of_lt (Nat.lt_of_le_of_lt h (by decide))
  have hw : double.word false rung = rung := by unfold Format.word; rw [if_neg (by decide)]
  rw [hw]
  unfold Format.read
  rw [sw_eq, bin_eq, inf_eq, lp_eq, h1, h2]
  dsimp only
  rw [if_neg (Nat.not_lt.2 hb), if_pos (Nat.lt_of_le_of_lt h (by decide)), hd, hr]
  rfl
theorem nearest_spec (mag : Nat) (place : Int) (h : mag ≠ 0) (h1 : -1022 ≤ place + mag.log2) (h2 : place + mag.log2 ≤ 900) :
    ∃ m p, double.read (double.nearest false mag place) = .number false m p ∧ 4503599627370496 ≤ m ∧ m < 9007199254740992 ∧ place + mag.log2 - 52 ≤ p ∧ p ≤ place + mag.log2 - 51 := by
  have hk := kept_bounds mag h
  dsimp only at hk
  unfold Format.nearest
  rw [if_neg h]
  simp only [lp_eq, fb_eq, bin_eq, inf_eq]
  rw [show max (place + (mag.log2 : Int) - ((52 : Nat) : Int)) (-1074) = place + mag.log2 - 52 by omega]
  have ea : (place - (place + (mag.log2 : Int) - 52)).toNat = ((0 : Int) - (0 + (mag.log2 : Int) - 52)).toNat := by congr 1; omega
  have eb : ((place + (mag.log2 : Int) - 52) - place).toNat = ((0 : Int) + (mag.log2 : Int) - 52 - 0).toNat := by congr 1; omega
  rw [ea, eb]
  clear ea eb
  generalize Toward.even.cut false _ _ = kept at hk ⊢
  obtain ⟨k1, k2⟩ := hk
  obtain ⟨E, hE, hEb, hE'⟩ : ∃ E : Nat, (place + (mag.log2 : Int) - 52 - -1074) = E ∧ E ≤ 1922 ∧ (E : Int) = place + mag.log2 + 1022 := ⟨(place + (mag.log2 : Int) - 52 - -1074).toNat, by omega, by omega, by omega⟩
  rw [hE, Int.toNat_natCast, Nat.min_eq_left (Nat.le_trans (rung_bd E kept hEb k2) (by decide))]
  obtain ⟨d, r, hd, hr, hr1, hd1⟩ := rung_div E kept k1 k2
  rw [read_rung _ d r (rung_bd E kept hEb k2) (Nat.le_trans k1 (Nat.le_add_left _ _)) hd hr]
  clear hd hr k1 k2
  refine ⟨_, _, rfl, Nat.le_add_right _ _, by omega, by omega, by omega⟩

theorem rootFrom_lt (n : Nat) : ∀ t r : Nat, Datum.rootFrom n t r < r + 2 ^ t
  | 0, r => by simp [Datum.rootFrom]
  | t + 1, r => by
    unfold Datum.rootFrom
    dsimp only
    split
    · have := rootFrom_lt n t (r + 1 <<< t)
      rw [Nat.one_shiftLeft] at this ⊢
      rw [Nat.pow_succ]; omega
    · have := rootFrom_lt n t r
      have := Nat.two_pow_pos t
      rw [Nat.pow_succ]; omega

theorem root_spec (m : Nat) (i : Int) (h1 : 4503599627370496 ≤ m) (h2 : m < 9007199254740992) (h3 : i ≤ 6) (h4 : -100 ≤ i) :
    ∃ M P, Datum.root 54 (.number false m i) = some (.number false M P) ∧ M ≠ 0 ∧ M < 72057594037927936 ∧ P ≤ -26 ∧ -100 ≤ P := by
  have hm : m ≠ 0 := by omega
  have hl : m.log2 = 52 := by
    have a : 52 ≤ m.log2 := (Nat.le_log2 hm).2 h1
    have b : m.log2 < 53 := (Nat.log2_lt hm).2 h2
    omega
  simp only [Datum.root, if_neg hm, hl, Bool.false_eq_true, if_false]
  have hmod : (i - ((2 * 54 - 52 : Nat) : Int)) % 2 = 0 ∨ (i - ((2 * 54 - 52 : Nat) : Int)) % 2 = 1 := by omega
  obtain ⟨x, hx, hx1⟩ : ∃ x : Nat, ((i - ((2 * 54 - 52 : Nat) : Int)) % 2).toNat = x ∧ x ≤ 1 := ⟨_, rfl, by omega⟩
  have hx2 : ((i - ((2 * 54 - 52 : Nat) : Int)) % 2) = x := by omega
  rw [hx]
  generalize hn : m <<< (2 * 54 - 52 + x) = n
  have hnb : n < 2 ^ 110 ∧ n ≠ 0 := by
    rw [← hn, Nat.shiftLeft_eq]
    have hp := Nat.two_pow_pos (2 * 54 - 52 + x)
    refine ⟨?_, Nat.mul_ne_zero hm (by omega)⟩
    have : (2 : Nat) ^ (2 * 54 - 52 + x) ≤ 2 ^ 57 := Nat.pow_le_pow_right (by decide) (by omega)
    calc m * 2 ^ (2 * 54 - 52 + x) ≤ m * 2 ^ 57 := Nat.mul_le_mul_left _ this
      _ < 9007199254740992 * 2 ^ 57 := Nat.mul_lt_mul_of_pos_right h2 (by decide)
      _ = 2 ^ 110 := rfl
  have hlog : n.log2 < 110 := (Nat.log2_lt hnb.2).2 hnb.1
  have hw := rootFrom_lt n (n.log2 / 2 + 1) 0
  have hpw : (2 : Nat) ^ (n.log2 / 2 + 1) ≤ 2 ^ 55 := Nat.pow_le_pow_right (by decide) (by omega)
  generalize Datum.rootFrom n (n.log2 / 2 + 1) 0 = whole at hw ⊢
  have hb := Bool.toNat_le (whole * whole != n)
  have hb0 : whole = 0 → (whole * whole != n).toNat = 1 := by
    rintro rfl
    have : (0 * 0 != n) = true := by simp; exact fun e => hnb.2 e.symm
    rw [this]; rfl
  have p55 : (2 : Nat) ^ 55 = 36028797018963968 := rfl
  refine ⟨_, _, rfl, ?_, by omega, by omega, by omega⟩
  by_cases h0 : whole = 0
  · rw [hb0 h0]; omega
  · omega

theorem toInt_spec (m : Nat) (p : Int) (h1 : m < 9007199254740992) (hm : 4503599627370496 ≤ m) (h2 : p ≤ -22) : ∃ k : Nat, (Datum.number false m p).toInt .zero = some (k : Int) ∧ k ≤ 2147483648 := by
  have hl : m.log2 = 52 := by
    have a : 52 ≤ m.log2 := (Nat.le_log2 (by omega)).2 hm
    have b : m.log2 < 53 := (Nat.log2_lt (by omega)).2 h1
    omega
  have e0 : p.toNat = 0 := by omega
  have hcut : Toward.zero.cut false m (-p).toNat ≤ 2147483648 := by
    unfold Toward.cut
    rw [hl, Nat.one_shiftLeft]
    dsimp only
    have hg : (2 : Nat) ^ 22 ≤ 2 ^ min (-p).toNat (52 + 2) := Nat.pow_le_pow_right (by decide) (by omega)
    have hq : m / 2 ^ min (-p).toNat (52 + 2) ≤ m / 2 ^ 22 := Nat.div_le_div_left hg (by decide)
    have e : (2 : Nat) ^ 22 = 4194304 := rfl
    rw [e] at hq
    have : (false : Bool).toNat = 0 := rfl
    omega
  refine ⟨Toward.zero.cut false m (-p).toNat, ?_, hcut⟩
  unfold Datum.toInt Datum.integral
  simp only [e0, Nat.shiftLeft_zero]
  rfl

/-- THE SQUARE ROOT OF A NUMBER FROM 0 TO 2^58, AS A FLOAT, MADE WHOLE. -/
theorem sqrt_whole (n : Nat) (h : n < 288230376151711744) : ∃ r k : Nat, double.sqrt (double.nearest false n 0) = some r ∧ (double.read r).toInt .zero = some (k : Int) ∧ k ≤ 2147483648 := by
  by_cases h0 : n = 0
  · subst h0
    exact ⟨_, 0, rfl, by decide +kernel, by decide⟩
  · have hlog : n.log2 < 58 := (Nat.log2_lt h0).2 h
    obtain ⟨m, p, e1, m1, m2, p1, p2⟩ := nearest_spec n 0 h0 (by omega) (by omega)
    obtain ⟨M, P, e2, M0, M1, P1, P2⟩ := root_spec m p m1 m2 (by omega) (by omega)
    have hMl : M.log2 < 56 := (Nat.log2_lt M0).2 M1
    obtain ⟨m', p', e3, a1, a2, b1, b2⟩ := nearest_spec M P M0 (by omega) (by omega)
    obtain ⟨k, e4, hk⟩ := toInt_spec m' p' a2 a1 (by omega)
    refine ⟨double.nearest false M P, k, ?_, by rw [e3]; exact e4, hk⟩
    unfold Format.sqrt
    rw [e1]
    show Option.map _ (Datum.root 54 _) = _
    rw [e2]
    rfl
end Go.Proofs.YtjimdnmdnjhnjaaGreatDoor.Flt
