/- Plain definitions: what the functions of the package cover, and of its reference, compute. No program in sight. -/
namespace Go.Proofs.YtlnkgjkjdllckaaGreatDoor

/-- Whether a number is from lo to hi. -/
def wi (n lo hi : Int) : Bool := decide (lo ≤ n) && decide (n ≤ hi)

def letterB (c : Int) : Bool := (decide (97 ≤ c) && decide (c ≤ 122)) || (decide (65 ≤ c) && decide (c ≤ 90))
def chB (i : Nat) (c : Int) : Bool := letterB c || (decide (i ≠ 0) && (decide (c = 45) || (decide (48 ≤ c) && decide (c ≤ 57))))
def allB : Nat → List UInt8 → Bool
  | _, [] => true
  | i, c :: l => chB i c.toNat && allB (i + 1) l
/-- Whether a text is a name. -/
def nameB (s : ByteArray) : Bool := allB 0 s.data.toList && decide (0 < s.size) && decide (s.size ≤ 12)

theorem allB_iff : ∀ (l : List UInt8) (i : Nat), allB i l = true ↔ ∀ k (h : k < l.length), chB (i + k) l[k].toNat = true
  | [], i => by simp [allB]
  | c :: l, i => by
    simp only [allB, Bool.and_eq_true, allB_iff l (i + 1)]
    constructor
    · rintro ⟨h1, h2⟩ k hk
      cases k with
      | zero => exact h1
      | succ k => have := h2 k (by simpa using hk); rw [show i + (k + 1) = i + 1 + k by omega]; simpa using this
    · intro h
      refine ⟨h 0 (by simp), fun k hk => ?_⟩
      have := h (k + 1) (by simpa using hk)
      rw [show i + 1 + k = i + (k + 1) by omega]; simpa using this

/-- Whether a fraction is in lowest terms. -/
def lowB (n d : Int) : Bool := decide (0 < d) && decide (Int.gcd n d = 1)
/-- The error of a tangent. -/
def tanE (n d : Int) : Int := if lowB n d then (if wi n 0 100 && decide (d ≤ 100) then 0 else 2) else 3
/-- The error of a point. -/
def ptE (n d : Int) : Int := if lowB n d then (if wi n 0 d && decide (d ≤ 1000000000000) then 0 else 2) else 3

/-- A comparison of two numbers. -/
def cmpI (x y : Int) : Int := if x < y then -1 else if y < x then 1 else 0

/-- The share of a point, in lowest terms. -/
def shN (n d : Int) : Int := n / (Int.gcd n d)
def shD (n d : Int) : Int := d / (Int.gcd n d)

/-- A part: From = a / b, To = c / d; none: nothing is met; up: whether the number K is above 0. -/
structure PV where
  a : Int
  b : Int
  c : Int
  d : Int
  none : Bool
  up : Bool
deriving DecidableEq

/-- Nothing is left if From lies behind To. -/
def PV.shut (p : PV) : PV := { p with none := p.none || decide (0 < cmpI (p.a * p.d) (p.c * p.b)) }
def PV.frm (p : PV) (n m : Int) : PV := PV.shut (if decide (0 < cmpI (n * p.b) (p.a * m)) then { p with a := n, b := m } else p)
def PV.to (p : PV) (n m : Int) : PV := PV.shut (if decide (cmpI (n * p.d) (p.c * m) < 0) then { p with c := n, d := m } else p)
/-- The shares t at which n + m t is not below 0. -/
def PV.cut (p : PV) (n m : Int) : PV :=
  if m = 0 then { p with none := p.none || decide (n < 0) }
  else if 0 < m ∧ n < 0 then p.frm (shN (-n) m) (shD (-n) m)
  else if m < 0 ∧ n < 0 then { p with none := true }
  else if m < 0 then p.to (shN n (-m)) (shD n (-m))
  else p
def PV.has (p : PV) (n m : Int) : Bool := !p.none && (decide (cmpI (p.a * m) (n * p.b) ≤ 0) && decide (cmpI (n * p.d) (p.c * m) ≤ 0))

/-- The places of a face; a set-up. -/
structure Fc where
  fx : Int
  fz : Int
  tx : Int
  tz : Int
deriving DecidableEq
structure Su where
  at_ : Int
  side : Int
  legs : Int
  ln : Int
  ld : Int
  mn : Int
  md : Int
  tn : Int
  td : Int
deriving DecidableEq

/-- What a set-up meets of a face: the numbers of the way, then the four cuts. -/
def metW (wx wz dx dz : Int) (s : Su) : PV :=
  let k := wx * dz - wz * dx
  if k = 0 then ⟨0, 1, 1, 1, true, false⟩
  else
    let p1 : PV := ⟨0, 1, 1, 1, false, decide (0 < k)⟩
    let p2 := p1.cut (s.side * dx * s.ld - dz * s.ln) (s.side * wx * s.ld - wz * s.ln)
    let p3 := p2.cut (dz * s.mn - s.side * dx * s.md) (wz * s.mn - s.side * wx * s.md)
    let K := max k (-k) * s.tn
    let p4 := p3.cut (K - (wx * dx + wz * dz) * s.td) (-1 * (wx * wx + wz * wz) * s.td)
    p4.cut (K - -1 * (wx * dx + wz * dz) * s.td) ((wx * wx + wz * wz) * s.td)
def metV (thick : Int) (f : Fc) (s : Su) : PV :=
  if s.legs = 2 then metW (f.tx - f.fx) ((2 * thick - f.tz) - (2 * thick - f.fz)) (f.fx - s.at_) (2 * thick - f.fz) s
  else metW (f.tx - f.fx) (f.tz - f.fz) (f.fx - s.at_) f.fz s
end Go.Proofs.YtlnkgjkjdllckaaGreatDoor
