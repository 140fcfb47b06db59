/- Contract: a number as text (base.Decimal), for all numbers. -/
import Derived.Laws.BytesString
import Derived.Laws.Cells
import Derived.Test.YtkbggcencmjgfaaGreatDoorZkCvM
import Derived.Test.YtkbggcencmjgfaaGreatDoorTxA
namespace Go.Proofs.YtkbggcencmjgfaaGreatDoor
open Go.RowKit Go.Lib

theorem conv_byte (w : World) (g : Nat) (b : Int) (hc : w.cell? ⟨g, 0, none⟩ = some (.int .u8 b)) : (convert 107 9 (.slice (some ⟨g, 0, none⟩) 1 1)).run Tryz.prog w = .ok (.string ⟨#[UInt8.ofNat b.toNat]⟩) w := by
  rw [run_convert_bytes_string w _ _ 5 _ _ _ Tryz.underlying107 Tryz.underlying5 Tryz.underlying9]
  rw [run_bytesToString w _ 1 1 [b] (by
    have := run_loadCells_list (P := Tryz.prog) (w := w) (⟨g, 0, none⟩ : Addr) [.int .u8 b] (fun j v hj => by
      match j, hj with
      | 0, hj => simp at hj; subst hj; exact hc
      | j + 1, hj => simp at hj)
    simpa using this)]
  rfl
set_option maxRecDepth 100000 in
set_option maxHeartbeats 8000000 in
theorem decimal_all (n : Int) (h0 : -9223372036854775808 ≤ n) (h1 : n ≤ 9223372036854775807) (w : World) : Calls Tryz.prog 46 #[.int .i64 n] w fun e w' => e = .returned (.string (strB (itoa n))) ∧ Below w.heap.size w w' := by
  by_cases hz : n = 0
  · subst hz
    have HE : Hid (itoa 0 = [48]) := Lib.hid (by unfold itoa; rw [if_neg (by omega), decDigits, dif_pos (by decide)]; rfl)
    go_enter Tryz.func46, Tryz.ntmps46
    rw [HE.out]
    go_wp2
    go_ret
    exact ⟨rfl, Below.refl _ _⟩
  have HS := Lib.hid (DecS.start n hz)
  have HZ : Hid (∀ m t, DecS n m t → t.length ≤ 19) := Lib.hid fun m t h => h.size h0 h1
  obtain ⟨sg, hsg, hsz⟩ : ∃ sg : ByteArray, (∀ t : List UInt8, t = decDigits n.natAbs → sg ++ strB t = strB (itoa n)) ∧ sg = (if n < 0 then ⟨#[45]⟩ else ⟨#[]⟩) := by
    by_cases hn : n < 0
    · refine ⟨⟨#[45]⟩, fun t ht => ?_, by rw [if_pos hn]⟩
      rw [show (⟨#[45]⟩ : ByteArray) = strB [45] from rfl, strB_append, ht]; unfold itoa; rw [if_pos hn]; rfl
    · refine ⟨⟨#[]⟩, fun t ht => ?_, by rw [if_neg hn]⟩
      rw [show (⟨#[]⟩ : ByteArray) = strB [] from rfl, strB_append, ht]; unfold itoa; rw [if_neg hn, show n.toNat = n.natAbs by omega]; rfl
  have HG := Lib.hid hsg; clear hsg
  have hz0 : (n == 0) = false := by simp [hz]
  go_enter Tryz.func46, Tryz.ntmps46
  by_cases hn : n < 0
  all_goals
    (first | rw [if_pos hn] at hsz | rw [if_neg hn] at hsz)
    subst hsz
    go_wp2
    go_loopw [0, 3] (fun s0 s3 wr => ∃ (m : Int) (t : List UInt8), s0 = .int .i64 m ∧ s3 = .string (strB t) ∧ Hid (DecS n m t) ∧ Below w.heap.size w wr) (fun s0 _ _ => (intOf s0).natAbs)
    case atStart => exact ⟨n, [], rfl, rfl, HS, Below.refl _ _⟩
    case round =>
      obtain ⟨m, t, rfl, rfl, HD, hBB⟩ := hrel
      have hzw := Below.size hBB
      by_cases hm : m = 0
      · subst hm
        have hl := HZ.out _ _ HD.out
        have hsl := strB_size t
        have hd := HD.out.done
        have HE := Lib.hid (HG.out t hd); clear hd
        go_wp2
        rw [HE.out]
        go_ret
        exact ⟨rfl, hBB⟩
      · have hmb : -9223372036854775808 ≤ m ∧ m ≤ 9223372036854775807 := by have := HD.out.1; have := HD.out.2.1; omega
        have hne : (m != 0) = true := by simp [hm]
        have hl := HZ.out _ _ HD.out
        have HN := Lib.hid (HD.out.next hm)
        have HL : Hid ((m.tdiv 10).natAbs < m.natAbs) := Lib.hid (by rw [Int.natAbs_tdiv]; show m.natAbs / 10 < m.natAbs; omega)
        have hq : (m.tmod 10).natAbs = m.natAbs % 10 := by rw [Int.natAbs_tmod]; rfl
        obtain ⟨q, hqm⟩ : ∃ q, m.tmod 10 = q := ⟨_, rfl⟩
        rw [hqm] at hq
        have hmx : max q (-q) = ((m.natAbs % 10 : Nat) : Int) := by omega
        obtain ⟨r, hr, hr10⟩ : ∃ r : Nat, m.natAbs % 10 = r ∧ r < 10 := ⟨_, rfl, by omega⟩
        rw [hr] at hmx
        obtain ⟨m2, hm2⟩ : ∃ m2, m.tdiv 10 = m2 := ⟨_, rfl⟩
        rw [hm2] at HL HN
        have hmb2 : -9223372036854775808 ≤ m2 ∧ m2 ≤ 9223372036854775807 := by have := HL.out; omega
        rw [hr] at HN
        have HR := Lib.hid hr; clear hr
        have hqb : -9 ≤ q ∧ q ≤ 9 := by omega
        have hsl := strB_size t
        have hcv := conv_byte (wr.alloc (.cells #[.int .u8 (48 + (r : Int))] 5)) wr.heap.size (48 + (r : Int)) (cell_one_new _ _ _ 0 _ rfl)
        have below_ : Below w.heap.size w (wr.alloc (.cells #[.int .u8 (48 + (r : Int))] 5)) := (by repeat (first | (with_reducible exact Below.refl _ _) | (with_reducible assumption) | ((with_reducible refine Below.setCell ?_ ?_ _); rotate_left; · (first | exact Nat.le_refl _ | (simp; done) | (simp; omega) | omega)) | ((with_reducible refine Below.alloc ?_ ?_ _); rotate_left; · (first | exact Nat.le_refl _ | (simp; done) | (simp; omega) | omega)) | (with_reducible apply Below.drew) | (with_reducible apply below_drewN') | (refine Below.trans ?_ (Below.mono (by assumption) (by first | exact Nat.le_refl _ | (simp; done) | (simp; omega) | omega))) | exact Below.refl _ _ | assumption))
        clear hq
        go_wp2_with fail
        refine (size_any _ (by omega) _).mono ?_
        rintro e w2 ⟨rfl, rfl⟩
        rw [hmx]
        go_wp2
        refine ⟨⟨m2, _, by first | rfl | rw [show wrap64 m2 = m2 from by unfold wrap64; omega], ?_, HN, below_⟩, ?_⟩
        · rw [show (⟨#[48 + UInt8.ofNat r]⟩ : ByteArray) = strB [UInt8.ofNat (48 + r)] from by rw [UInt8.ofNat_add]; rfl, strB_append]; rfl
        · have := HL.out
          simp only [intOf]
          first | exact this | (rw [show wrap64 m2 = m2 from by unfold wrap64; omega]; exact this)
end Go.Proofs.YtkbggcencmjgfaaGreatDoor
