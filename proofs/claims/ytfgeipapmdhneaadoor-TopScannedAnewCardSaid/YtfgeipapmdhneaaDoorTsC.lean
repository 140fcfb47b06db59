/- Contracts: bytes as a number; samples that are 0 are right. -/
import Derived.Laws.FloatArith
import Derived.Laws.Cover2
import Derived.Laws.IdiomStrings
import Derived.Laws.BytesString
import Derived.Laws.Append
import Derived.WalkLawsBesides
import Derived.Test.YtfgeipapmdhneaaDoorTsB
import Derived.Test.YtfgeipapmdhneaaDoorZsCvN
namespace Go.Proofs.YtfgeipapmdhneaaDoor
open Go.RowKit Go.Lib

theorem wholeL_snoc (l : List UInt8) (a : Int) (b : UInt8) : wholeL a (l ++ [b]) = wholeL a l * 256 + b.toNat := by unfold wholeL; rw [List.foldl_append]; rfl
theorem wholeL_bd : ∀ (l : List UInt8) (a : Int) (B : Nat), 0 ≤ a → a < 256 ^ B → 0 ≤ wholeL a l ∧ wholeL a l < 256 ^ (B + l.length)
  | [], a, B, h0, h1 => ⟨h0, h1⟩
  | b :: l, a, B, h0, h1 => by
    have hb := b.toNat_lt
    have h2 : a * 256 + (b.toNat : Int) < 256 ^ (B + 1) := by rw [Int.pow_succ]; omega
    have h3 := wholeL_bd l (a * 256 + b.toNat) (B + 1) (by omega) h2
    have e : B + 1 + l.length = B + (b :: l).length := by simp; omega
    rw [e] at h3
    exact h3
theorem wholeL_four {l : List UInt8} (h : l.length ≤ 4) : 0 ≤ wholeL 0 l ∧ wholeL 0 l < 4294967296 := by
  have h1 := wholeL_bd l 0 0 (by omega) (by decide)
  refine ⟨h1.1, Int.lt_of_lt_of_le h1.2 ?_⟩
  rw [Nat.zero_add]
  match hl : l.length, h with
  | 0, _ => decide
  | 1, _ => decide
  | 2, _ => decide
  | 3, _ => decide
  | 4, _ => decide
theorem bits_or8 (c b : Nat) (hc : c < 1099511627776) (hb : b < 256) : bits BinOp.or IntKind.i64 ((c : Int) * 256) (b : Int) = (c : Int) * 256 + b := by
  have h1 : (c : Int) * 256 = ((c * 256 : Nat) : Int) := by omega
  have e1 : (BitVec.ofInt 64 ((c * 256 : Nat) : Int)).toNat = c * 256 := by
    rw [BitVec.ofInt_natCast, BitVec.toNat_ofNat]
    exact Nat.mod_eq_of_lt (by omega)
  have e2 : (BitVec.ofInt 64 (b : Int)).toNat = b := by
    rw [BitVec.ofInt_natCast, BitVec.toNat_ofNat]
    exact Nat.mod_eq_of_lt (by omega)
  have e3 : (BitVec.ofInt 64 ((c * 256 : Nat) : Int) ||| BitVec.ofInt 64 (b : Int)).toNat = c * 256 + b := by
    rw [BitVec.toNat_or, e1, e2]
    have := Nat.shiftLeft_add_eq_or_of_lt (i := 8) (b := b) (by omega) c
    rw [Nat.shiftLeft_eq] at this
    simpa using this.symm
  have e4 : bits BinOp.or IntKind.i64 ((c : Int) * 256) (b : Int) = IntKind.i64.wrap (((BitVec.ofInt 64 ((c * 256 : Nat) : Int) ||| BitVec.ofInt 64 (b : Int)).toNat : Nat) : Int) := by rw [h1]; rfl
  rw [e4, e3]
  have hb64 : IntKind.i64.bits = 64 := rfl
  unfold IntKind.wrap
  simp only [hb64, Nat.reduceSub, Int.reducePow]
  split
  · rename_i hh
    simp only [Bool.and_eq_true, decide_eq_true_eq] at hh
    have := hh.2
    omega
  · omega
set_option maxRecDepth 100000 in
set_option maxHeartbeats 2000000 in
theorem trWhole_any (s : ByteArray) (hs : s.size ≤ 4) (w : World) : Calls Tryd.prog 31 #[.string s] w fun e w' => e = .returned (.int .i64 (wholeL 0 s.data.toList)) ∧ Below w.heap.size w w' := by
  have hsl : s.data.toList.length = s.size := by rw [Array.length_toList]; rfl
  have hcv := run_bytes_of_string (P := Tryd.prog) w 9 67 5 s Tryd.underlying9 Tryd.underlying67 Tryd.underlying5
  have hC : ∀ k (h : k < s.size), (w.drew.alloc (.cells (bytesRow s (grownCap w s.size 0 5)) 5 ((bytesRow s (grownCap w s.size 0 5)).size, (bytesRow s (grownCap w s.size 0 5)).size + 1))).cell? ⟨w.heap.size, k, none⟩ = some (.int .u8 (s[k].toNat : Int)) := fun k h => (World.cell?_alloc_mark w.drew _ _ _ k).trans (bytesRow_cell s _ k h)
  have hB0 : Below w.heap.size w (w.drew.alloc (.cells (bytesRow s (grownCap w s.size 0 5)) 5 ((bytesRow s (grownCap w s.size 0 5)).size, (bytesRow s (grownCap w s.size 0 5)).size + 1))) := ((Below.refl _ _).drew).alloc (Nat.le_refl _) _
  have hz0 : w.heap.size < (w.drew.alloc (.cells (bytesRow s (grownCap w s.size 0 5)) 5 ((bytesRow s (grownCap w s.size 0 5)).size, (bytesRow s (grownCap w s.size 0 5)).size + 1))).heap.size := by simp
  have HC := Lib.hid hC
  clear hC
  go_enter Tryd.func31, Tryd.ntmps31
  go_wp2
  go_loopw [3, 9] (fun s3 s9 wr => ∃ k : Nat, s3 = .int .i64 (wholeL 0 (s.data.toList.take k)) ∧ s9 = .int .i64 k ∧ k ≤ s.size ∧ Hid (∀ k (h : k < s.size), wr.cell? ⟨w.heap.size, k, none⟩ = some (.int .u8 (s[k].toNat : Int))) ∧ Below w.heap.size w wr ∧ w.heap.size < wr.heap.size) (fun _ s9 _ => s.size - (RowKit.intOf s9).toNat)
  case atStart => exact ⟨0, rfl, rfl, Nat.zero_le _, HC, hB0, hz0⟩
  case round =>
    clear HC hB0 hz0 hcv
    obtain ⟨k, rfl, rfl, hk, HC, hBB, hz⟩ := hrel
    by_cases hlt : k < s.size
    · have hlI : (k : Int) < (s.size : Int) := by omega
      have hb := wholeL_bd (s.data.toList.take k) 0 0 (by omega) (by decide)
      have x0 := HC.out k hlt
      have HN : Hid (wholeL 0 (s.data.toList.take (k + 1)) = wholeL 0 (s.data.toList.take k) * 256 + ((s.data.toList[k]'(by omega)).toNat : Int)) := Lib.hid (by
        rw [List.take_succ_eq_append_getElem (by omega), wholeL_snoc])
      have HG : Hid (s[k] = s.data.toList[k]'(by omega)) := Lib.hid rfl
      have h4 := wholeL_four (l := s.data.toList.take k) (by rw [List.length_take]; omega)
      have HH : Hid (0 ≤ wholeL 0 (s.data.toList.take k) ∧ wholeL 0 (s.data.toList.take k) < 4294967296 ∧ s[k].toNat < 256) := Lib.hid ⟨h4.1, h4.2, by have := s[k].toNat_lt; omega⟩
      rw [← HG.out] at HN
      clear hb h4
      go_wp2
      refine ⟨⟨k + 1, ?_, by go_num, by omega, HC, hBB, hz⟩, by (first | (simp [RowKit.intOf]; done) | (simp [RowKit.intOf]; omega))⟩
      obtain ⟨h1, h2, h3⟩ := HH.out
      rw [HN.out]
      generalize wholeL 0 (s.data.toList.take k) = c at *
      generalize s[k].toNat = b at *
      obtain ⟨c, rfl⟩ : ∃ n : Nat, c = (n : Int) := ⟨c.toNat, by omega⟩
      have e1 : wrap64 ((c : Int) * 256) = (c : Int) * 256 := by unfold wrap64; omega
      have e2 : wrap64 (b : Int) = (b : Int) := by unfold wrap64; omega
      rw [e1, e2, bits_or8 c b (by omega) h3]
    · obtain rfl : k = s.size := by omega
      have HE : Hid (s.data.toList.take s.size = s.data.toList) := Lib.hid (List.take_of_length_le (by omega))
      rw [HE.out]
      go_wp2
      go_ret
      exact ⟨rfl, hBB⟩
set_option maxRecDepth 100000 in
theorem sampleErr_zero (w : World) : Calls Tryd.prog 57 #[.float .f32 0] w fun e w' => e = .returned (.int .i64 0) ∧ w' = w := by
  have hsub := fun w => run_float_arith (P := Tryd.prog) w BinOp.sub 69 .f32 0 0 0 (by kernel_rfl)
  have hfi := fun w => run_convert_float_int (P := Tryd.prog) w 69 3 .f32 .i64 0 0 (by kernel_rfl) Tryd.underlying3 (by kernel_rfl)
  have hif : floatOfInt .f32 0 = 0 := by kernel_rfl
  have ho1 : FloatKind.f32.format.order 0 1266679808 = some .lt := by kernel_rfl
  have ho2 : FloatKind.f32.format.order 0 3414163456 = some .gt := by kernel_rfl
  go_enter Tryd.func57, Tryd.ntmps57
  go_wp2
  go_ret
  exact ⟨rfl, rfl⟩
/-- Samples that are 0. -/
def zeroC (n : Nat) : List Value := List.replicate n (.float .f32 0)
theorem zeroC_at {n k : Nat} (h : k < n) : (zeroC n)[k]? = some (.float .f32 0) := by unfold zeroC; rw [List.getElem?_replicate, if_pos h]
set_option maxRecDepth 100000 in
theorem samplesErr_zero (g cap : Nat) (w : World) (hg : ∀ k, k < 64 → w.cell? ⟨g, k, none⟩ = some (.float .f32 0)) (hgw : g < w.heap.size) : Calls Tryd.prog 44 #[.slice (some ⟨g, 0, none⟩) 64 cap] w fun e w' => e = .returned (.tuple #[.int .i64 0, .int .i64 0]) ∧ w' = w := by
  go_enter Tryd.func44, Tryd.ntmps44
  have HG := Lib.hid hg
  clear hg
  go_wp2
  go_loopw [9] (fun s9 wr => ∃ k : Nat, s9 = .int .i64 k ∧ k ≤ 64 ∧ wr = w) (fun s9 _ => 64 - (RowKit.intOf s9).toNat)
  case atStart => exact ⟨0, rfl, by omega, rfl⟩
  case round =>
    obtain ⟨k, rfl, hk, rfl⟩ := hrel
    by_cases hlt : k < 64
    · have hlI : (k : Int) < 64 := by omega
      have x0 := HG.out k hlt
      go_wp2_with (go_at_call 57; refine (sampleErr_zero _).mono ?_; rintro e w2 ⟨rfl, rfl⟩)
      exact ⟨⟨k + 1, by go_num, by omega, trivial⟩, by (first | (simp [RowKit.intOf]; done) | (simp [RowKit.intOf]; omega))⟩
    · obtain rfl : k = 64 := by omega
      go_wp2
      go_ret2
      exact ⟨rfl, rfl⟩
theorem checkMatrix_zero (g cap : Nat) (w : World) (hg : ∀ k, k < 64 → w.cell? ⟨g, k, none⟩ = some (.float .f32 0)) (hgw : g < w.heap.size) : Calls Tryd.prog 29 #[.agg #[.int .i64 1, .slice (some ⟨g, 0, none⟩) 64 cap]] w fun e w' => e = .returned (.tuple #[.int .i64 0, .int .i64 0]) ∧ Below w.heap.size w w' := by
  have h1 := samplesErr_zero g cap (w.alloc (.cells #[.int .i64 1, .slice (some ⟨g, 0, none⟩) 64 cap] 33)) (fun k hk => by rw [World.cell?_alloc_lt _ _ _ hgw]; exact hg k hk) (by simp; omega)
  have H1 := Lib.hid h1
  clear h1 hg
  go_enter Tryd.func29, Tryd.ntmps29
  go_wp2_with fail
  refine (trWithin_any _ _ _ _).mono ?_
  rintro e w1 ⟨rfl, rfl⟩
  go_wp2_with fail
  refine H1.out.mono ?_
  rintro e w2 ⟨rfl, rfl⟩
  go_wp2
  go_ret2
  exact ⟨rfl, (by repeat (first | (with_reducible exact Below.refl _ _) | (with_reducible assumption) | ((with_reducible refine Below.setCell ?_ ?_ _); rotate_left; · (first | exact Nat.le_refl _ | (simp; done) | (simp; omega) | omega)) | ((with_reducible refine Below.alloc ?_ ?_ _); rotate_left; · (first | exact Nat.le_refl _ | (simp; done) | (simp; omega) | omega)) | (with_reducible apply Below.drew) | (with_reducible apply below_drewN') | (refine Below.trans ?_ (Below.mono (by assumption) (by first | exact Nat.le_refl _ | (simp; done) | (simp; omega) | omega))) | exact Below.refl _ _ | assumption))⟩
theorem matrixErr_zero (g cap : Nat) (w : World) (hg : ∀ k, k < 64 → w.cell? ⟨g, k, none⟩ = some (.float .f32 0)) (hgw : g < w.heap.size) : Calls Tryd.prog 18 #[.agg #[.int .i64 1, .slice (some ⟨g, 0, none⟩) 64 cap]] w fun e w' => e = .returned (.int .i64 0) ∧ Below w.heap.size w w' := by
  have H1 := Lib.hid (checkMatrix_zero g cap (w.alloc (.cells #[.int .i64 1, .slice (some ⟨g, 0, none⟩) 64 cap] 33)) (fun k hk => by rw [World.cell?_alloc_lt _ _ _ hgw]; exact hg k hk) (by simp; omega))
  clear hg
  go_enter Tryd.func18, Tryd.ntmps18
  go_wp2_with fail
  refine H1.out.mono ?_
  rintro e w2 ⟨rfl, hB2⟩
  go_wp2
  go_ret
  exact ⟨rfl, (((Below.refl _ _).alloc (Nat.le_refl _) _)).trans (hB2.mono (by simp))⟩
end Go.Proofs.YtfgeipapmdhneaaDoor
