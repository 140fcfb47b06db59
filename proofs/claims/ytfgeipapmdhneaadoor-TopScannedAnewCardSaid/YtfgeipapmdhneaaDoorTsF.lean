/- Contract: trace.ParseFrame, where a frame was cut. -/
import Derived.Test.YtfgeipapmdhneaaDoorTsE
import Derived.Test.YtfgeipapmdhneaaDoorShTs
namespace Go.Proofs.YtfgeipapmdhneaaDoor
open Go.RowKit Go.Lib Go.Shelf

theorem frame_begin (p : Int) : ∃ r, frameB p = 67 :: 80 :: 1 :: 1 :: r := ⟨_, rfl⟩
theorem hasPre_any (s : ByteArray) (r : List UInt8) (h : s.data.toList = 67 :: 80 :: r) (w : World) : Calls Tryd.prog 30 #[.string s, .string ⟨#[67, 80]⟩] w fun e w' => e = .returned (.bool true) ∧ w' = w := by
  refine (Tryd.strings_HasPrefix s ⟨#[67, 80]⟩ w).mono ?_
  rintro e w' ⟨rfl, rfl⟩
  refine ⟨?_, rfl⟩
  rw [h]
  simp [hasPrefix]
set_option maxRecDepth 100000 in
set_option maxHeartbeats 4000000 in
theorem parseFrame_short (s : ByteArray) (r : List UInt8) (h : s.data.toList = 67 :: 80 :: 1 :: 1 :: r) (h8 : 8 ≤ s.size) (hs : s.size < 138) (w : World) :
    Calls Tryd.prog 21 #[.string s] w fun e w' => e = .returned (.tuple #[.agg #[.int .i64 0, .int .i64 0, .slice none 0 0], .int .i64 10]) ∧ Below w.heap.size w w' := by
  have i8 : ¬ (s.size : Int) < 8 := by omega
  have i3 : (3 : Int) < (s.size : Int) := by omega
  have i2 : (2 : Int) < (s.size : Int) := by omega
  have g2 : (s[2]'(by omega)) = 1 := by
    have h1 : (s.data.toList)[2]'(by rw [h]; simp) = 1 := by simp [h]
    exact h1
  have g3 : (s[3]'(by omega)) = 1 := by
    have h1 : (s.data.toList)[3]'(by rw [h]; simp) = 1 := by simp [h]
    exact h1
  have gs : ((s.size : Int) != 138) = true := by simp; omega
  go_enter Tryd.func21, Tryd.ntmps21
  go_wp2_with (first
    | (go_at_call 30; refine (hasPre_any s _ h _).mono ?_; rintro e w2 ⟨rfl, rfl⟩)
    | (go_at_call 28; refine (trWithin_any _ _ _ _).mono ?_; rintro e w2 ⟨rfl, rfl⟩)
    | (go_at_call 22; refine (frameSize_any _).mono ?_; rintro e w2 ⟨rfl, rfl⟩))
  have br := (Blk.new w 35 #[.int .i64 0, .int .i64 0, .slice none 0 0]).alloc (.cells #[.int .i64 10] 28)
  have be := Blk.new' (w.alloc (.cells #[.int .i64 0, .int .i64 0, .slice none 0 0] 35)) 28 #[.int .i64 10] (g := w.heap.size + 1) (by simp)
  obtain ⟨r0, r1, r2, rf⟩ := blk3_ br
  have e0 := be.cell 0
  simp at e0
  exact bodyPost_ret (v := .tuple #[.agg #[.int .i64 0, .int .i64 0, .slice none 0 0], .int .i64 10]) (by simp [results, Tryd.results21, go_sem, r0, r1, r2]) rfl ⟨rfl, ((Below.refl _ _).alloc (Nat.le_refl _) _).alloc (by simp) _⟩
end Go.Proofs.YtfgeipapmdhneaaDoor
