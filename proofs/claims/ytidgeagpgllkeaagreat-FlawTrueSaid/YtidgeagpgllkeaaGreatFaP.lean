/- Plain definitions: what the functions of the package flaw, and of its reference, compute. No program in sight. -/
namespace Go.Proofs.YtidgeagpgllkeaaGreat

/-- Whether a number is from lo to hi. -/
def wi (n lo hi : Int) : Bool := decide (lo ≤ n) && decide (n ≤ hi)

def letterB (c : Int) : Bool := (decide (97 ≤ c) && decide (c ≤ 122)) || (decide (65 ≤ c) && decide (c ≤ 90))
def chB (i : Nat) (c : Int) : Bool := letterB c || (decide (i ≠ 0) && (decide (c = 45) || (decide (48 ≤ c) && decide (c ≤ 57))))
def allB : Nat → List UInt8 → Bool
  | _, [] => true
  | i, c :: l => chB i c.toNat && allB (i + 1) l
/-- Whether a text is a name. -/
def nameB (s : ByteArray) : Bool := allB 0 s.data.toList && decide (0 < s.size) && decide (s.size ≤ 12)

theorem allB_iff : ∀ (l : List UInt8) (i : Nat), allB i l = true ↔ ∀ k (h : k < l.length), chB (i + k) l[k].toNat = true
  | [], i => by simp [allB]
  | c :: l, i => by
    simp only [allB, Bool.and_eq_true, allB_iff l (i + 1)]
    constructor
    · rintro ⟨h1, h2⟩ k hk
      cases k with
      | zero => exact h1
      | succ k => have := h2 k (by simpa using hk); rw [show i + (k + 1) = i + 1 + k by omega]; simpa using this
    · intro h
      refine ⟨h 0 (by simp), fun k hk => ?_⟩
      have := h (k + 1) (by simpa using hk)
      rw [show i + 1 + k = i + (k + 1) by omega]; simpa using this

/-- Whether a fraction is in lowest terms. -/
def lowB (n d : Int) : Bool := decide (0 < d) && decide (Int.gcd n d = 1)

/-! ### roots -/
def isqN : Nat → Nat
  | 0 => 0
  | n + 1 => if (isqN n + 1) * (isqN n + 1) ≤ n + 1 then isqN n + 1 else isqN n
theorem isqN_spec : ∀ n : Nat, isqN n * isqN n ≤ n ∧ n < (isqN n + 1) * (isqN n + 1)
  | 0 => by simp [isqN]
  | n + 1 => by
    have h := isqN_spec n
    unfold isqN
    split
    · rename_i h1
      refine ⟨h1, ?_⟩
      have e : (isqN n + 1 + 1) * (isqN n + 1 + 1) = (isqN n + 1) * (isqN n + 1) + 2 * (isqN n + 1) + 1 := by rw [Nat.add_mul, Nat.mul_add]; omega
      omega
    · omega
theorem sq_lt {a b : Nat} (h : a * a < b * b) : a < b := by
  rcases Nat.lt_or_ge a b with h1 | h1
  · exact h1
  · exact absurd h (by have := Nat.mul_le_mul h1 h1; omega)
theorem isqN_eq {n r : Nat} (h1 : r * r ≤ n) (h2 : n < (r + 1) * (r + 1)) : isqN n = r := by
  have h := isqN_spec n
  have a := sq_lt (Nat.lt_of_le_of_lt h.1 h2)
  have b := sq_lt (Nat.lt_of_le_of_lt h1 h.2)
  omega
/-- The greatest number whose square is at most n; of a number below 0: 0. -/
def isq (n : Int) : Int := isqN n.toNat
theorem isq_nonneg (n : Int) : 0 ≤ isq n := by unfold isq; omega
theorem isq_le {n : Int} (h : 0 ≤ n) : isq n * isq n ≤ n := by
  have := (isqN_spec n.toNat).1
  unfold isq
  have e : ((isqN n.toNat * isqN n.toNat : Nat) : Int) ≤ (n.toNat : Int) := Int.ofNat_le.2 this
  rw [Int.natCast_mul] at e
  omega
theorem lt_isq {n : Int} (h : 0 ≤ n) : n < (isq n + 1) * (isq n + 1) := by
  have := (isqN_spec n.toNat).2
  unfold isq
  have e : (n.toNat : Int) < (((isqN n.toNat + 1) * (isqN n.toNat + 1) : Nat) : Int) := Int.ofNat_lt.2 this
  rw [Int.natCast_mul] at e
  simp only [Int.natCast_add, Int.natCast_one] at e
  omega
theorem isq_eq {n r : Int} (h0 : 0 ≤ r) (h1 : r * r ≤ n) (h2 : n < (r + 1) * (r + 1)) : isq n = r := by
  obtain ⟨k, rfl⟩ := Int.eq_ofNat_of_zero_le h0
  have hn : 0 ≤ n := by have := Int.mul_nonneg h0 h0; omega
  obtain ⟨m, rfl⟩ := Int.eq_ofNat_of_zero_le hn
  unfold isq
  have a : k * k ≤ m := by exact_mod_cast h1
  have b : m < (k + 1) * (k + 1) := by exact_mod_cast h2
  rw [Int.toNat_natCast, isqN_eq a b]
/-- The least number whose square is at least n. -/
def isqUp (n : Int) : Int := if isq n * isq n < n then isq n + 1 else isq n

/-! ### errors -/
def unlessE (b : Bool) (e : Int) : Int := if b then 0 else e
def firstE : List Int → Int
  | [] => 0
  | e :: l => if e = 0 then firstE l else e
theorem firstE_zero : ∀ l : List Int, firstE l = 0 ↔ ∀ e ∈ l, e = 0
  | [] => by simp [firstE]
  | e :: l => by
    unfold firstE
    split
    · rename_i h; simp [firstE_zero l, h]
    · rename_i h; simp [h]
/-- The error of a level; of a range with ends from lo to hi. -/
def levelE (n : Int) : Int := unlessE (wi n 0 1000000000) 2
def rangeE (a b lo hi : Int) : Int := if wi a lo hi && wi b lo hi then (if a ≤ b then 0 else 9) else 2

/-! ### tips -/
structure Tip where
  tl : Int
  th : Int
  ol : Int
  oh : Int
  sp : Int
/-- A range, or an error. -/
structure RE where
  lo : Int
  hi : Int
  e : Int
def tipE (x : Tip) : Int := firstE [rangeE x.tl x.th 0 1000000000000, rangeE x.ol x.oh 0 100000, unlessE (wi x.sp 500 10000) 2]
def tipLo (x : Tip) : Int := max 0 ((x.tl * x.sp / 20000000) * (x.tl * x.sp / 20000000) - x.oh * x.oh)
def tipHi (x : Tip) : Int := ((x.th * x.sp + 20000000 - 1) / 20000000) * ((x.th * x.sp + 20000000 - 1) / 20000000) - x.ol * x.ol
def tipV (x : Tip) : RE :=
  if tipE x = 0 then (if tipHi x < 0 then ⟨0, 0, 12⟩ else ⟨isq (tipLo x), isqUp (tipHi x), 0⟩) else ⟨0, 0, tipE x⟩
def heightE (ul uh ll lh : Int) : Int := firstE [rangeE ul uh (-1000000000) 1000000000, rangeE ll lh (-1000000000) 1000000000, unlessE (decide (ul ≤ lh)) 22]
def heightV (ul uh ll lh : Int) : RE :=
  if heightE ul uh ll lh = 0 then ⟨max 0 (ll - uh), lh - ul, 0⟩ else ⟨0, 0, heightE ul uh ll lh⟩
theorem rangeE_zero {a b lo hi : Int} (h : rangeE a b lo hi = 0) : lo ≤ a ∧ a ≤ b ∧ b ≤ hi := by
  unfold rangeE wi at h
  split at h
  · rename_i h1
    simp at h1
    split at h
    · omega
    · simp at h
  · simp at h
theorem unlessE_zero {b : Bool} {e : Int} (he : e ≠ 0) (h : unlessE b e = 0) : b = true := by
  unfold unlessE at h
  split at h
  · assumption
  · exact absurd h he
theorem tipE_zero {x : Tip} (h : tipE x = 0) : 0 ≤ x.tl ∧ x.tl ≤ x.th ∧ x.th ≤ 1000000000000 ∧ 0 ≤ x.ol ∧ x.ol ≤ x.oh ∧ x.oh ≤ 100000 ∧ 500 ≤ x.sp ∧ x.sp ≤ 10000 := by
  have := (firstE_zero _).1 h
  have h1 := rangeE_zero (this _ (by simp : rangeE x.tl x.th 0 1000000000000 ∈ _))
  have h2 := rangeE_zero (this _ (by simp : rangeE x.ol x.oh 0 100000 ∈ _))
  have h3 := unlessE_zero (by decide) (this _ (by simp : unlessE (wi x.sp 500 10000) 2 ∈ _))
  simp [wi] at h3
  omega
end Go.Proofs.YtidgeagpgllkeaaGreat
