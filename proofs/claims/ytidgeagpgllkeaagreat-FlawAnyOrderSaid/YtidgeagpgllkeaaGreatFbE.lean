/- Plain law: the true size is enclosed. No program in sight. Plain law: the areas of the first example's scan. Contracts: the first example's scan; the examples of chapter 8 that the top statements begin with. -/
import Derived.Test.YtidgeagpgllkeaaGreatFaP
import Derived.Test.YtidgeagpgllkeaaGreatFaZf
import Derived.Test.YtidgeagpgllkeaaGreatFaD
namespace Go.Proofs.YtidgeagpgllkeaaGreat

theorem le_isq {a n : Int} (hn : 0 ≤ n) (h : a * a ≤ n) : a ≤ isq n := by
  have h1 := lt_isq hn
  have h2 := isq_nonneg n
  rcases Int.lt_or_le (isq n) a with h3 | h3
  · have := Int.mul_le_mul (show isq n + 1 ≤ a by omega) (show isq n + 1 ≤ a by omega) (by omega) (by omega)
    omega
  · exact h3
theorem isq_le_of {b n : Int} (hb : 0 ≤ b) (h : n ≤ b * b) : isq n ≤ b := by
  rcases Int.lt_or_le n 0 with h0 | h0
  · have : isq n = 0 := by unfold isq; rw [show n.toNat = 0 by omega]; rfl
    omega
  · have h1 := isq_le h0
    rcases Int.lt_or_le b (isq n) with h3 | h3
    · have := Int.mul_le_mul (show b + 1 ≤ isq n by omega) (show b + 1 ≤ isq n by omega) (by omega) (by omega)
      have e : (b + 1) * (b + 1) = b * b + 2 * b + 1 := by rw [Int.add_mul, Int.mul_add]; omega
      omega
    · exact h3
theorem isqUp_sq (n : Int) : n ≤ isqUp n * isqUp n := by
  unfold isqUp
  rcases Int.lt_or_le n 0 with h0 | h0
  · have h2 : isq n = 0 := by unfold isq; rw [show n.toNat = 0 by omega]; rfl
    rw [h2, if_neg (by omega)]; omega
  · split
    · have := lt_isq h0; omega
    · omega
theorem isqUp_nonneg (n : Int) : 0 ≤ isqUp n := by
  have := isq_nonneg n
  unfold isqUp; split <;> omega
theorem isqUp_le_of {b n : Int} (hb : 0 ≤ b) (h : n ≤ b * b) : isqUp n ≤ b := by
  have h1 := isq_le_of hb h
  unfold isqUp
  split
  · rcases Int.lt_or_le (isq n) b with h3 | h3
    · omega
    · have h4 : isq n = b := by omega
      have h5 : isq n * isq n = b * b := by rw [h4]
      omega
  · exact h1
theorem le_isqUp {a n : Int} (ha : 0 ≤ a) (h : a * a ≤ n) : a ≤ isqUp n := by
  have h1 := isqUp_sq n
  have h2 := isqUp_nonneg n
  rcases Int.lt_or_le (isqUp n) a with h3 | h3
  · have := Int.mul_le_mul (show isqUp n + 1 ≤ a by omega) (show isqUp n + 1 ≤ a by omega) (by omega) (by omega)
    have e : (isqUp n + 1) * (isqUp n + 1) = isqUp n * isqUp n + 2 * isqUp n + 1 := by rw [Int.add_mul, Int.mul_add]; omega
    omega
  · exact h3
theorem isq_le_isqUp (n : Int) : isq n ≤ isqUp n := by unfold isqUp; split <;> omega
theorem sq_le_of {a b : Int} (hb : 0 ≤ b) (h : a * a ≤ b * b) : a ≤ b := by
  rcases Int.lt_or_le b a with h3 | h3
  · have := Int.mul_le_mul (show b + 1 ≤ a by omega) (show b + 1 ≤ a by omega) (by omega) (by omega)
    have e : (b + 1) * (b + 1) = b * b + 2 * b + 1 := by rw [Int.add_mul, Int.mul_add]; omega
    omega
  · exact h3

theorem rangeE_ok {a b lo hi : Int} (h1 : lo ≤ a) (h2 : a ≤ b) (h3 : b ≤ hi) : rangeE a b lo hi = 0 := by
  have k1 : wi a lo hi = true := by simp [wi]; omega
  have k2 : wi b lo hi = true := by simp [wi]; omega
  unfold rangeE; rw [k1, k2]; simp [h2]

/-- The time of a way so far along and so far down. -/
def wayN (x z : Int) : Int := 1000000 * (x * x + z * z)
def tLo (x z sp : Int) : Int := isq (wayN x z) * 10000 / sp
def tHi (x z sp : Int) : Int := -(-(isqUp (wayN x z) * 10000) / sp)

/-- The tip that is told. -/
def tipAt (x z sp u v : Int) : Tip := ⟨max 0 (2 * tLo x z sp - u), 2 * tHi x z sp + v, x, x, sp⟩

theorem wayN_bd {x z : Int} (hx : 0 ≤ x ∧ x ≤ 20000) (hz : 0 ≤ z ∧ z ≤ 20000) : 0 ≤ wayN x z ∧ wayN x z ≤ 800000000000000 := by
  have h1 := Int.mul_le_mul hx.2 hx.2 hx.1 (by omega)
  have h2 := Int.mul_le_mul hz.2 hz.2 hz.1 (by omega)
  have h3 := Int.mul_nonneg hx.1 hx.1
  have h4 := Int.mul_nonneg hz.1 hz.1
  unfold wayN; omega
theorem time_bd {x z sp : Int} (hx : 0 ≤ x ∧ x ≤ 20000) (hz : 0 ≤ z ∧ z ≤ 20000) (hs : 500 ≤ sp ∧ sp ≤ 10000) :
    0 ≤ tLo x z sp ∧ tLo x z sp ≤ tHi x z sp ∧ tHi x z sp ≤ 700000000 ∧ tLo x z sp * sp ≤ isq (wayN x z) * 10000 ∧ isqUp (wayN x z) * 10000 ≤ tHi x z sp * sp := by
  have hN := wayN_bd hx hz
  have l0 := isq_nonneg (wayN x z)
  have u0 := isqUp_nonneg (wayN x z)
  have lu := isq_le_isqUp (wayN x z)
  have u1 : isqUp (wayN x z) ≤ 30000000 := isqUp_le_of (by omega) (by omega)
  have a0 : 0 ≤ tLo x z sp := Int.ediv_nonneg (by omega) (by omega)
  have a1 : tLo x z sp * sp ≤ isq (wayN x z) * 10000 := Int.ediv_mul_le _ (by omega)
  have b1 : -(isqUp (wayN x z) * 10000) / sp * sp ≤ -(isqUp (wayN x z) * 10000) := Int.ediv_mul_le _ (by omega)
  have b2 : isqUp (wayN x z) * 10000 ≤ tHi x z sp * sp := by unfold tHi; rw [Int.neg_mul]; omega
  have b3 : -(isqUp (wayN x z) * 10000) < (-(isqUp (wayN x z) * 10000) / sp + 1) * sp := Int.lt_ediv_add_one_mul_self _ (by omega)
  have ab : tLo x z sp ≤ tHi x z sp := by
    have : tLo x z sp * sp ≤ tHi x z sp * sp := by omega
    exact Int.le_of_mul_le_mul_right this (by omega)
  refine ⟨a0, ab, ?_, a1, b2⟩
  rcases Int.lt_or_le 700000000 (tHi x z sp) with h | h
  · exfalso
    unfold tHi at h
    generalize -(isqUp (wayN x z) * 10000) / sp = q at *
    have h2 : 700000000 * 500 ≤ (-(q + 1)) * sp := Int.mul_le_mul (by omega) hs.1 (by omega) (by omega)
    rw [Int.neg_mul] at h2
    omega
  · exact h
theorem tip_bd {x z sp u v : Int} (hx : 0 ≤ x ∧ x ≤ 20000) (hz : 0 ≤ z ∧ z ≤ 20000) (hs : 500 ≤ sp ∧ sp ≤ 10000) (hu : 0 ≤ u ∧ u ≤ 1000000) (hv : 0 ≤ v ∧ v ≤ 1000000) :
    tipE (tipAt x z sp u v) = 0 ∧ 0 ≤ tipHi (tipAt x z sp u v) ∧ isq (tipLo (tipAt x z sp u v)) ≤ z ∧ z ≤ isqUp (tipHi (tipAt x z sp u v)) ∧ isqUp (tipHi (tipAt x z sp u v)) ≤ 10000000 := by
  obtain ⟨t0, t1, t2, t3, t4⟩ := time_bd hx hz hs
  have hN := wayN_bd hx hz
  have l0 := isq_nonneg (wayN x z)
  have u0 := isqUp_nonneg (wayN x z)
  have l2 := isq_le hN.1
  have u2 := isqUp_sq (wayN x z)
  have hE : tipE (tipAt x z sp u v) = 0 := by
    unfold tipE tipAt
    rw [firstE_zero]
    have e1 : rangeE (max 0 (2 * tLo x z sp - u)) (2 * tHi x z sp + v) 0 1000000000000 = 0 := rangeE_ok (by omega) (by omega) (by omega)
    have e2 : rangeE x x 0 100000 = 0 := rangeE_ok (by omega) (by omega) (by omega)
    have e3 : unlessE (wi sp 500 10000) 2 = 0 := by
      have h1 : wi sp 500 10000 = true := by simp [wi]; omega
      unfold unlessE; rw [if_pos h1]
    intro e he
    simp only [List.mem_cons, List.not_mem_nil, or_false] at he
    rcases he with rfl | rfl | rfl
    · exact e1
    · exact e2
    · exact e3
  -- the lower end
  obtain ⟨a, ha⟩ : ∃ a, max 0 (2 * tLo x z sp - u) * sp / 20000000 = a := ⟨_, rfl⟩
  obtain ⟨b, hb⟩ : ∃ b, ((2 * tHi x z sp + v) * sp + 20000000 - 1) / 20000000 = b := ⟨_, rfl⟩
  have m1 : max 0 (2 * tLo x z sp - u) * sp ≤ 2 * tLo x z sp * sp := Int.mul_le_mul_of_nonneg_right (by omega) (by omega)
  have m0 : 0 ≤ max 0 (2 * tLo x z sp - u) * sp := Int.mul_nonneg (by omega) (by omega)
  have m2 : 2 * tLo x z sp * sp = 2 * (tLo x z sp * sp) := Int.mul_assoc _ _ _
  have m3 : 2 * tHi x z sp * sp ≤ (2 * tHi x z sp + v) * sp := Int.mul_le_mul_of_nonneg_right (by omega) (by omega)
  have m4 : 2 * tHi x z sp * sp = 2 * (tHi x z sp * sp) := Int.mul_assoc _ _ _
  have m5 : (2 * tHi x z sp + v) * sp ≤ 1401000000 * 10000 := Int.mul_le_mul (by omega) hs.2 (by omega) (by omega)
  have a0 : 0 ≤ a := by omega
  have a1 : 1000 * a ≤ isq (wayN x z) := by omega
  have b0 : 0 ≤ b ∧ b ≤ 10000000 := by omega
  have b1 : isqUp (wayN x z) ≤ 1000 * b := by omega
  have a2 := Int.mul_le_mul a1 a1 (by omega) l0
  have b2 := Int.mul_le_mul b1 b1 u0 (by omega)
  have e1 : 1000 * a * (1000 * a) = 1000000 * (a * a) := by rw [Int.mul_assoc, Int.mul_left_comm a]; omega
  have e2 : 1000 * b * (1000 * b) = 1000000 * (b * b) := by rw [Int.mul_assoc, Int.mul_left_comm b]; omega
  have a3 : a * a ≤ x * x + z * z := by unfold wayN at *; omega
  have b3 : x * x + z * z ≤ b * b := by unfold wayN at *; omega
  have hz2 := Int.mul_nonneg hz.1 hz.1
  have hx2 := Int.mul_nonneg hx.1 hx.1
  have eLo : tipLo (tipAt x z sp u v) = max 0 (a * a - x * x) := by unfold tipLo tipAt; dsimp only; rw [ha]
  have eHi : tipHi (tipAt x z sp u v) = b * b - x * x := by unfold tipHi tipAt; dsimp only; rw [hb]
  rw [eLo, eHi]
  exact ⟨hE, by omega, isq_le_of hz.1 (by omega), le_isqUp hz.1 (by omega), Int.le_trans (isqUp_le_of b0.1 (by omega)) b0.2⟩

/-- What the tips' depths say of their height. -/
theorem height_of {lo0 hi0 lo1 hi1 z0 z1 : Int} (h0 : lo0 ≤ z0 ∧ z0 ≤ hi0) (h1 : lo1 ≤ z1 ∧ z1 ≤ hi1) (p0 : 0 ≤ lo0) (p1 : 0 ≤ lo1) (q0 : hi0 ≤ 10000000) (q1 : hi1 ≤ 10000000) (hz : z0 ≤ z1) :
    heightV lo0 hi0 lo1 hi1 = ⟨max 0 (lo1 - hi0), hi1 - lo0, 0⟩ ∧ wi (z1 - z0) (max 0 (lo1 - hi0)) (hi1 - lo0) = true := by
  have e1 : ∀ a b : Int, 0 ≤ a → a ≤ b → b ≤ 10000000 → rangeE a b (-1000000000) 1000000000 = 0 := fun a b h1 h2 h3 => rangeE_ok (by omega) h2 (by omega)
  have hE : heightE lo0 hi0 lo1 hi1 = 0 := by
    unfold heightE
    rw [e1 _ _ p0 (by omega) q0, e1 _ _ p1 (by omega) q1, show decide (lo0 ≤ hi1) = true by simp; omega]; rfl
  exact ⟨by unfold heightV; rw [if_pos hE], by simp [wi]; omega⟩
end Go.Proofs.YtidgeagpgllkeaaGreat

namespace Go.Proofs.YtidgeagpgllkeaaGreat
open Go.RowKit

/-- The first example's scan. -/
def sixS (A : Option Addr) (cap : Nat) : Sc := ⟨0, 0, 2, 3, [5, 0, 7, 0, 6, 0], A, cap⟩
def sixL : List (Int × Int) := [(0, 0), (0, 2), (1, 1)]
section
variable {A : Option Addr} {cap : Nat}
theorem six_bd {x y : Int} (h : 0 ≤ atV [sixS A cap] x y) : (0 ≤ x ∧ x ≤ 1) ∧ 0 ≤ y ∧ y ≤ 2 := by
  cases hb : inB (sixS A cap) x y
  · exfalso
    have : atV [sixS A cap] x y = -1 := by
      show atS (-1) _ x y = -1
      unfold atS; rw [hb]; rfl
    omega
  · simp [inB, wi, sixS] at hb; omega
theorem six_mem {x y : Int} (h : abv (atV [sixS A cap]) x y 5 = true) : (x, y) ∈ sixL := by
  obtain ⟨hr, hc⟩ := six_bd ((abv_iff _ _ _ _).1 h).1
  have hr : x = 0 ∨ x = 1 := by omega
  have hc : y = 0 ∨ y = 1 ∨ y = 2 := by omega
  rcases hr with rfl | rfl <;> rcases hc with rfl | rfl | rfl
  · decide
  · have e : abv (atV [sixS A cap]) 0 1 5 = false := by rfl
    rw [e] at h; cases h
  · decide
  · have e : abv (atV [sixS A cap]) 1 0 5 = false := by rfl
    rw [e] at h; cases h
  · decide
  · have e : abv (atV [sixS A cap]) 1 2 5 = false := by rfl
    rw [e] at h; cases h
theorem six_abv : ∀ x ∈ sixL, abv (atV [sixS A cap]) x.1 x.2 5 = true := by
  intro x hx
  simp only [sixL, List.mem_cons, List.not_mem_nil, or_false] at hx
  rcases hx with rfl | rfl | rfl <;> rfl
theorem six_to : ∀ x ∈ sixL, Conn (atV [sixS A cap]) 5 true x (1, 1) := by
  intro x hx
  simp only [sixL, List.mem_cons, List.not_mem_nil, or_false] at hx
  rcases hx with rfl | rfl | rfl
  · exact .step .refl (by decide) (six_abv _ (by decide))
  · exact .step .refl (by decide) (six_abv _ (by decide))
  · exact .refl
theorem six_conn {x y : Int × Int} (hx : x ∈ sixL) (hy : y ∈ sixL) : Conn (atV [sixS A cap]) 5 true x y := by
  have h := six_to (A := A) (cap := cap) x hx
  simp only [sixL, List.mem_cons, List.not_mem_nil, or_false] at hy
  rcases hy with rfl | rfl | rfl
  · exact .step h (by decide) (six_abv _ (by decide))
  · exact .step h (by decide) (six_abv _ (by decide))
  · exact h
end

theorem peak_foldl (g : Int → Int → Int) : ∀ (l : List (Int × Int)) (p : Int × Int),
    (l.foldl (fun p x => if g p.1 p.2 < g x.1 x.2 then x else p) p ∈ p :: l) ∧ g p.1 p.2 ≤ g (l.foldl (fun p x => if g p.1 p.2 < g x.1 x.2 then x else p) p).1 (l.foldl (fun p x => if g p.1 p.2 < g x.1 x.2 then x else p) p).2 ∧
      ∀ x ∈ l, g x.1 x.2 ≤ g (l.foldl (fun p x => if g p.1 p.2 < g x.1 x.2 then x else p) p).1 (l.foldl (fun p x => if g p.1 p.2 < g x.1 x.2 then x else p) p).2
  | [], p => by simp
  | y :: l, p => by
    obtain ⟨h1, h2, h3⟩ := peak_foldl g l (if g p.1 p.2 < g y.1 y.2 then y else p)
    simp only [List.foldl_cons]
    generalize l.foldl (fun p x => if g p.1 p.2 < g x.1 x.2 then x else p) (if g p.1 p.2 < g y.1 y.2 then y else p) = r at h1 h2 h3 ⊢
    split at h1 <;> rename_i hc
    · rw [if_pos hc] at h2
      refine ⟨?_, by omega, ?_⟩
      · rcases List.mem_cons.1 h1 with e | e
        · rw [e]; simp
        · exact List.mem_cons_of_mem _ (List.mem_cons_of_mem _ e)
      · intro x hx
        rcases List.mem_cons.1 hx with e | e
        · rw [e]; exact h2
        · exact h3 x e
    · rw [if_neg hc] at h2
      refine ⟨?_, by omega, ?_⟩
      · rcases List.mem_cons.1 h1 with e | e
        · rw [e]; simp
        · exact List.mem_cons_of_mem _ (List.mem_cons_of_mem _ e)
      · intro x hx
        rcases List.mem_cons.1 hx with e | e
        · rw [e]; omega
        · exact h3 x e
/-- The peak of cells: one of them, and none is greater. -/
theorem peak_spec (g : Int → Int → Int) {cs : List (Int × Int)} (h : cs ≠ []) : peakV g cs ∈ cs ∧ ∀ x ∈ cs, g x.1 x.2 ≤ g (peakV g cs).1 (peakV g cs).2 := by
  obtain ⟨h1, h2, h3⟩ := peak_foldl g cs (cs.headD (0, 0))
  have hm : cs.headD (0, 0) ∈ cs := by
    cases cs with
    | nil => exact absurd rfl h
    | cons a l => simp
  refine ⟨?_, h3⟩
  unfold peakV
  rcases List.mem_cons.1 h1 with e | e
  · rw [e]; exact hm
  · exact e

/-- The areas of the first example: one; it has three cells, and its peak is the second one. -/
theorem six_areas {A : Option Addr} {cap : Nat} {P : List (Int × Int)} {Bs : List ((Int × Int) × ArA)} (hP : PlacesOk (atV [sixS A cap]) 5 P) (hS : ArS (atV [sixS A cap]) 5 true P P.length Bs) :
    ∃ q, Bs = [q] ∧ q.2.2.length = 3 ∧ peakV (atV [sixS A cap]) q.2.2 = (0, 2) := by
  have hin : ∀ x ∈ P, x ∈ sixL := fun x hx => six_mem (hP.abv x hx)
  have hall : ∀ x ∈ sixL, x ∈ P := by
    intro x hx
    refine hP.all x.1 x.2 ?_ ?_ (six_abv x hx)
    all_goals
      simp only [sixL, List.mem_cons, List.not_mem_nil, or_false] at hx
      rcases hx with rfl | rfl | rfl <;> exact ⟨by decide, by decide⟩
  have hsub : ∀ q ∈ Bs, q.1 ∈ P := fun q hq => by
    have := hS.sub.subset (List.mem_map_of_mem (f := (·.1)) hq)
    rwa [List.take_length] at this
  match Bs, hS with
  | [], hS =>
    obtain ⟨q, hq, _⟩ := hS.cover (0, 0) (by rw [List.take_length]; exact hall _ (by decide))
    cases hq
  | a :: b :: Bs, hS =>
    exfalso
    have h1 := (List.pairwise_cons.1 hS.apart).1 b (by simp)
    exact h1 (((hS.each a (by simp)).mem _).2 (six_conn (hin _ (hsub a (by simp))) (hin _ (hsub b (by simp)))))
  | [q], hS =>
    have hA := hS.each q (by simp)
    have hq := hin _ (hsub q (by simp))
    have hiff : ∀ x, x ∈ q.2.2 ↔ x ∈ sixL := fun x => by
      rw [hA.mem]
      constructor
      · intro h
        cases h with
        | refl => exact hq
        | step _ _ ha => exact six_mem ha
      · exact fun h => six_conn hq h
    have hperm : q.2.2.Perm sixL := (List.perm_ext_iff_of_nodup hA.nodup (by decide)).2 hiff
    obtain ⟨p1, p2⟩ := peak_spec (atV [sixS A cap]) (cs := q.2.2) (fun e => by have := (hiff (0, 0)).2 (by decide); rw [e] at this; cases this)
    refine ⟨q, rfl, by rw [hperm.length_eq]; rfl, ?_⟩
    have h2 := p2 (0, 2) ((hiff _).2 (by decide))
    have h1 := (hiff _).1 p1
    generalize peakV (atV [sixS A cap]) q.2.2 = p at h1 h2
    have e7 : atV [sixS A cap] 0 2 = 7 := by rfl
    simp only [sixL, List.mem_cons, List.not_mem_nil, or_false] at h1
    rcases h1 with rfl | rfl | rfl
    · have e5 : atV [sixS A cap] 0 0 = 5 := by rfl
      dsimp only at h2; omega
    · rfl
    · have e6 : atV [sixS A cap] 1 1 = 6 := by rfl
      dsimp only at h2; omega
end Go.Proofs.YtidgeagpgllkeaaGreat

namespace Go.Proofs.YtidgeagpgllkeaaGreat
open Go.RowKit

theorem ScOk.one {w : World} {g h : Nat} {t u : TypeId} {s : Sc} (hd : Blk w g t (intsC s.data).toArray) (hs : Blk w h u (scC s).toArray) (hA : s.dA = some ⟨g, 0, none⟩) (hl : s.data.length ≤ 1000000000) : ScOk [s] (some ⟨h, 0, none⟩) w.heap.size w :=
  ⟨by simp, ⟨rfl, fun _ => ⟨h, 0, rfl, hs.lt, fun j u hj => by
      rw [Nat.zero_add, hs.cell j]
      have e : scsC [s] = scC s := by simp [scsC]
      rw [e] at hj; simpa using hj⟩⟩, fun x hx => by rw [List.mem_singleton] at hx; subst hx; exact hl,
    fun x hx => by
      rw [List.mem_singleton] at hx; subst hx
      exact ⟨by simp [intsC], fun _ => ⟨g, 0, hA, hd.lt, fun j u hj => by rw [Nat.zero_add, hd.cell j]; simpa using hj⟩⟩⟩

set_option maxHeartbeats 400000 in
theorem six_any (w : World) : Calls Tryz.prog 82 #[] w fun e w' =>
    e = .returned (.slice (some ⟨w.heap.size + 1, 0, none⟩) 1 1) ∧ ScOk [sixS (some ⟨w.heap.size, 0, none⟩) 6] (some ⟨w.heap.size + 1, 0, none⟩) w'.heap.size w' ∧ Below w.heap.size w w' := by
  go_enter Tryz.func82, Tryz.ntmps82
  go_wp2
  go_ret
  have h0 := (Blk.new w 3 #[.int .i64 5, .int .i64 0, .int .i64 7, .int .i64 0, .int .i64 6, .int .i64 0]).alloc (.cells #[.int .i64 0, .int .i64 0, .int .i64 2, .int .i64 3, .slice (some ⟨w.heap.size, 0, none⟩) 6 6] 39)
  have h1 := Blk.new (w.alloc (.cells #[.int .i64 5, .int .i64 0, .int .i64 7, .int .i64 0, .int .i64 6, .int .i64 0] 3)) 39 #[.int .i64 0, .int .i64 0, .int .i64 2, .int .i64 3, .slice (some ⟨w.heap.size, 0, none⟩) 6 6]
  simp only [World.size_alloc] at h1
  exact ⟨rfl, ScOk.one (s := sixS (some ⟨w.heap.size, 0, none⟩) 6) h0 h1 rfl (by show (6 : Nat) ≤ 1000000000; decide), (by repeat (first | (with_reducible exact Below.refl _ _) | (with_reducible assumption) | ((with_reducible refine Below.setCell ?_ ?_ _); rotate_left; · (first | exact Nat.le_refl _ | (simp; done) | (simp; omega) | omega)) | ((with_reducible refine Below.alloc ?_ ?_ _); rotate_left; · (first | exact Nat.le_refl _ | (simp; done) | (simp; omega) | omega)) | (with_reducible apply Below.drew) | (with_reducible apply below_drewN') | (refine Below.trans ?_ (Below.mono (by assumption) (by first | exact Nat.le_refl _ | (simp; done) | (simp; omega) | omega))) | exact Below.refl _ _ | assumption))⟩

theorem six_good (A : Option Addr) (cap : Nat) : ∀ s ∈ [sixS A cap], ScGood s := by
  intro s hs
  rw [List.mem_singleton] at hs; subst hs
  exact ⟨⟨(by decide : (-100000 : Int) ≤ 0), (by decide : (0 : Int) ≤ 100000)⟩, ⟨(by decide : (-100000 : Int) ≤ 0), (by decide : (0 : Int) ≤ 100000)⟩, ⟨(by decide : (1 : Int) ≤ 2), (by decide : (2 : Int) ≤ 24)⟩, ⟨(by decide : (1 : Int) ≤ 3), (by decide : (3 : Int) ≤ 24)⟩, rfl, (by decide : (6 : Nat) ≤ 576), fun x hx => by
    simp only [sixS, List.mem_cons, List.not_mem_nil, or_false] at hx
    omega⟩
theorem six_err (A : Option Addr) (cap : Nat) : scanAskE [sixS A cap] 5 = 0 := rfl

/-- The tip of the examples. -/
theorem tip_val : tipV ⟨10000000, 10000000, 1800, 1800, 6000⟩ = ⟨2400, 2400, 0⟩ := by
  have h : isq 5760000 = 2400 := isq_eq (by decide) (by decide) (by decide)
  have hE : tipE ⟨10000000, 10000000, 1800, 1800, 6000⟩ = 0 := rfl
  have hl : tipLo ⟨10000000, 10000000, 1800, 1800, 6000⟩ = 5760000 := rfl
  have hh : tipHi ⟨10000000, 10000000, 1800, 1800, 6000⟩ = 5760000 := rfl
  unfold tipV isqUp
  rw [hE, hl, hh, h]; rfl

/-- What the call of Areas at the first example gives. -/
theorem sixAreas_any (w : World) (A Aa : Option Addr) (cap dcap B : Nat) (h : ScOk [sixS A dcap] Aa B w) (hBw : B ≤ w.heap.size) :
    Calls Tryz.prog 22 #[.slice Aa 1 cap, .agg #[.int .i64 5, .bool true]] w fun e w' => ∃ g v cap', e = .returned (.tuple #[.slice (some ⟨g, 0, none⟩) 1 cap', .int .i64 0]) ∧ w.heap.size ≤ g ∧ g < w'.heap.size ∧
      w'.cell? ⟨g, 0, none⟩ = some v ∧ w'.cell? ⟨g, 1, none⟩ = some (.int .i64 0) ∧ w'.cell? ⟨g, 2, none⟩ = some (.int .i64 2) ∧ w'.cell? ⟨g, 3, none⟩ = some (.int .i64 7) ∧ (∃ A c, v = .slice A 3 c) ∧ Below w.heap.size w w' := by
  refine (areas_ok [sixS A dcap] _ cap B 5 true w h hBw (six_err A dcap) (Lib.hid (six_good A dcap))).mono ?_
  rintro e w' ⟨v, P, Bs, rfl, hP, hS, hrow, hcells, hB⟩
  obtain ⟨q, rfl, hl, hpk⟩ := six_areas hP hS
  have e7 : atV [sixS A dcap] 0 2 = 7 := by rfl
  rw [show cellsA (atV [sixS A dcap]) ([q].map (·.2)) = [q.2.1, .int .i64 0, .int .i64 2, .int .i64 7] by simp only [cellsA, encA, List.map_cons, List.map_nil, List.flatMap_cons, List.flatMap_nil, hpk, e7, List.append_nil]] at hrow
  obtain ⟨g, c, rfl, h1, h2⟩ := hrow.form (by simp)
  have hc := hrow.cells (g := g) rfl
  have hq := hcells q (by simp)
  rw [hl] at hq
  obtain ⟨g2, c2, hv, _, _⟩ := hq.form (by simp)
  exact ⟨g, q.2.1, c, rfl, h1, h2, hc 0 _ rfl, hc 1 _ rfl, hc 2 _ rfl, hc 3 _ rfl, ⟨_, _, hv⟩, hB⟩

set_option maxHeartbeats 1000000 in
theorem flawed_any (w : World) : Calls Tryz.prog 48 #[] w fun e w' => e = .returned (.bool true) ∧ Below w.heap.size w w' := by
  go_enter Tryz.func48, Tryz.ntmps48
  go_wp2_with fail
  refine (six_any w).mono ?_
  rintro e w1 ⟨rfl, hS, hB1⟩
  go_wp2_with fail
  refine (sixAreas_any w1 _ _ 1 6 _ hS (Nat.le_refl _)).mono ?_
  rintro e w2 ⟨g, v, cap', rfl, hg0, hg1, _, _, _, hc3, _, hB2⟩
  have hBB : Below w.heap.size w w2 := hB1.trans (hB2.mono (Below.size hB1))
  clear hB1 hB2 hS
  go_wp2_with fail
  refine (tipDepth_any ⟨10000000, 10000000, 1800, 1800, 6000⟩ _).mono ?_
  rw [tip_val]
  unfold reC
  rintro e w3 ⟨rfl, hB3⟩
  have hc := (hB3.cell (p := ⟨g, 3, none⟩) hg1).trans hc3
  have hg2 : g < w3.heap.size := Nat.lt_of_lt_of_le hg1 (Below.size hB3)
  have hBB3 := hBB.trans (hB3.mono (Below.size hBB))
  clear hB3 hc3 hBB
  go_wp2
  go_ret
  exact ⟨rfl, hBB3.alloc (Below.size hBB3) _⟩
end Go.Proofs.YtidgeagpgllkeaaGreat
