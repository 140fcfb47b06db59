/- Plain law: the bytes of a frame, and the frames that a text that was cut begins with. -/
import Derived.Test.YtfgeipapmdhneaaDoorTxA
namespace Go.Proofs.YtfgeipapmdhneaaDoor
open Go Go.Lib

/-! ### numbers as bytes -/
def byteI (x : Int) : UInt8 := UInt8.ofNat (x % 256).toNat
/-- A number as k bytes, the greatest first. -/
def wb (n : Int) : Nat → List UInt8
  | 0 => []
  | k + 1 => byteI (n / 2 ^ (8 * k)) :: wb n k
def wholeL (a : Int) (l : List UInt8) : Int := l.foldl (fun a b => a * 256 + b.toNat) a
theorem wb_length (n : Int) : ∀ k, (wb n k).length = k
  | 0 => rfl
  | k + 1 => by rw [wb, List.length_cons, wb_length n k]
theorem byteI_nat (x : Int) : ((byteI x).toNat : Int) = x % 256 := by
  unfold byteI
  have h0 : 0 ≤ x % 256 := Int.emod_nonneg _ (by omega)
  have h1 : x % 256 < 256 := Int.emod_lt_of_pos _ (by omega)
  rw [UInt8.toNat_ofNat_of_lt' (by simp; omega)]
  omega
theorem whole_two (n : Int) : wholeL 0 (wb n 2) = n % 65536 := by
  simp only [wb, wholeL, List.foldl_cons, List.foldl_nil, byteI_nat]
  simp only [Nat.reduceMul, Int.reducePow]
  omega
theorem whole_four (n : Int) : wholeL 0 (wb n 4) = n % 4294967296 := by
  simp only [wb, wholeL, List.foldl_cons, List.foldl_nil, byteI_nat]
  simp only [Nat.reduceMul, Int.reducePow]
  omega
/-- The check of bytes. -/
def chk (n : Int) (l : List UInt8) : Int := l.foldl (fun n b => (257 * n + b.toNat + 1) % 65521) n
theorem chk_bd : ∀ (l : List UInt8) (n : Int), 0 ≤ n → n < 65521 → 0 ≤ chk n l ∧ chk n l < 65521
  | [], n, h0, h1 => ⟨h0, h1⟩
  | b :: l, n, _, _ => chk_bd l _ (Int.emod_nonneg _ (by omega)) (Int.emod_lt_of_pos _ (by omega))
theorem chk_snoc (l : List UInt8) (n : Int) (b : UInt8) : chk n (l ++ [b]) = (257 * chk n l + b.toNat + 1) % 65521 := by
  unfold chk; rw [List.foldl_append]; rfl

/-! ### frames -/
def frHead (p : Int) : List UInt8 := [67, 80, 1, 1] ++ wb p 4
def frBody (p : Int) : List UInt8 := frHead p ++ List.replicate 128 0
/-- The frame of a position, of one element whose samples are 0. -/
def frameB (p : Int) : List UInt8 := frBody p ++ wb (chk 1 (frBody p)) 2
theorem frBody_length (p : Int) : (frBody p).length = 136 := by
  unfold frBody frHead
  simp only [List.length_append, List.length_cons, List.length_nil, List.length_replicate, wb_length]
theorem frameB_length (p : Int) : (frameB p).length = 138 := by
  unfold frameB; rw [List.length_append, frBody_length, wb_length]
/-- Frames, one behind the other. -/
def framesB (ps : List Int) : List UInt8 := (ps.map frameB).flatten
theorem framesB_length : ∀ (ps : List Int), (framesB ps).length = 138 * ps.length
  | [] => rfl
  | p :: ps => by
    have ih := framesB_length ps
    unfold framesB at ih ⊢
    rw [List.map_cons, List.flatten_cons, List.length_append, frameB_length, ih, List.length_cons]
    omega
theorem framesB_drop : ∀ (k : Nat) (ps : List Int), k ≤ ps.length → (framesB ps).drop (138 * k) = framesB (ps.drop k)
  | 0, ps, _ => by simp
  | k + 1, [], h => by simp at h
  | k + 1, p :: ps, h => by
    have ih := framesB_drop k ps (by simpa using h)
    have e : framesB (p :: ps) = frameB p ++ framesB ps := by unfold framesB; rw [List.map_cons, List.flatten_cons]
    rw [e, show 138 * (k + 1) = (frameB p).length + 138 * k by rw [frameB_length]; omega, List.drop_append, List.drop_of_length_le (by omega), List.nil_append, Nat.add_sub_cancel_left, ih, List.drop_succ_cons]
theorem framesB_snoc (ps : List Int) (p : Int) : framesB (ps ++ [p]) = framesB ps ++ frameB p := by unfold framesB; simp
/-- What lies behind k whole frames of a text that was cut: a whole frame, or the beginning of one. -/
theorem frames_rest {ps : List Int} {cut k : Nat} (hk : 138 * k ≤ cut) (hc : cut ≤ 138 * ps.length) :
    ((framesB ps).take cut).drop (138 * k) = (framesB (ps.drop k)).take (cut - 138 * k) := by
  rw [List.drop_take, framesB_drop k ps (by omega)]
theorem frames_first {ps : List Int} {k m : Nat} (hk : k < ps.length) (hm : m ≤ 138) : (framesB (ps.drop k)).take m = (frameB ps[k]).take m := by
  rw [List.drop_eq_getElem_cons hk]
  have e : framesB (ps[k] :: ps.drop (k + 1)) = frameB ps[k] ++ framesB (ps.drop (k + 1)) := by unfold framesB; rw [List.map_cons, List.flatten_cons]
  rw [e, List.take_append_of_le_length (by rw [frameB_length]; exact hm)]

end Go.Proofs.YtfgeipapmdhneaaDoor
