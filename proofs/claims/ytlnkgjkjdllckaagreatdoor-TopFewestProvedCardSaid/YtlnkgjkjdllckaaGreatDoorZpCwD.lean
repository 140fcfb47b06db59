/- The examples of the statements: the joint, the set-up, and what the functions answer there. -/
import Derived.Test.YtlnkgjkjdllckaaGreatDoorZpCwB
import Derived.Test.YtlnkgjkjdllckaaGreatDoorZpCvK
import Derived.Test.YtlnkgjkjdllckaaGreatDoorZpCvY
import Derived.Test.YtlnkgjkjdllckaaGreatDoorZpCvM
namespace Go.Proofs.YtlnkgjkjdllckaaGreatDoor
open Go.RowKit

def slantJ : Jo := ⟨⟨#[118]⟩, 1000, 0, [(⟨#[102]⟩, ⟨0, 1000, 1000, 0⟩)]⟩
def dirN : ByteArray := ⟨#[97]⟩
def dirS : Su := ⟨-1000, 1, 1, 0, 1, 3, 1, 1, 1⟩
theorem dir_wf : dirS.wf := by constructor <;> (simp [I64, dirS])

theorem slant_any (w : World) :
    Calls Tryz.prog 15 #[] w fun e w' => ∃ A c, e = .returned (.agg (joC slantJ A c)) ∧ JoOk slantJ A c w'.heap.size w' ∧ Below w.heap.size w w' := by
  go_enter Tryz.func15, Tryz.ntmps15
  go_wp2
  have bf := Blk.new' (w.alloc (.cells #[.string ⟨#[118]⟩, .int .i64 1000, .int .i64 0, .slice (some ⟨w.heap.size + 1, 0, none⟩) 1 1] 24)) 100 #[.string ⟨#[102]⟩, .int .i64 0, .int .i64 1000, .int .i64 1000, .int .i64 0] (g := w.heap.size + 1) (by simp)
  refine bodyPost_ret (v := .agg #[.string ⟨#[118]⟩, .int .i64 1000, .int .i64 0, .slice (some ⟨w.heap.size + 1, 0, none⟩) 1 1]) (by simp [results, Tryz.results15, go_sem]) rfl ⟨some ⟨w.heap.size + 1, 0, none⟩, 1, rfl, ⟨by simp [slantJ, ByteArray.size], ?_, by simp [slantJ], by omega, ⟨rfl, fun _ => ⟨w.heap.size + 1, 0, rfl, bf.lt, fun j u hu => ?_⟩⟩, Nat.le_refl _⟩, (by repeat (first | (with_reducible exact Below.refl _ _) | (with_reducible assumption) | ((with_reducible refine Below.setCell ?_ ?_ _); rotate_left; · (first | exact Nat.le_refl _ | (simp; done) | (simp; omega) | omega)) | ((with_reducible refine Below.alloc ?_ ?_ _); rotate_left; · (first | exact Nat.le_refl _ | (simp; done) | (simp; omega) | omega)) | (with_reducible apply Below.drew) | (with_reducible apply below_drewN') | (refine Below.trans ?_ (Below.mono (by assumption) (by first | exact Nat.le_refl _ | (simp; done) | (simp; omega) | omega))) | exact Below.refl _ _ | assumption))⟩
  · intro p hp
    simp [slantJ] at hp
    subst hp
    simp [ByteArray.size]
  · rw [Nat.zero_add, bf.cell j, List.getElem?_toArray]
    exact hu

theorem whole_any (n : Int) (w : World) : Calls Tryz.prog 39 #[.int .i64 n] w fun e w' => e = .returned (.agg #[.int .i64 n, .int .i64 1]) ∧ Below w.heap.size w w' := by
  go_enter Tryz.func39, Tryz.ntmps39
  go_wp2
  exact bodyPost_ret (v := .agg #[.int .i64 n, .int .i64 1]) (by simp [results, Tryz.results39, go_sem]) rfl ⟨rfl, (by repeat (first | (with_reducible exact Below.refl _ _) | (with_reducible assumption) | ((with_reducible refine Below.setCell ?_ ?_ _); rotate_left; · (first | exact Nat.le_refl _ | (simp; done) | (simp; omega) | omega)) | ((with_reducible refine Below.alloc ?_ ?_ _); rotate_left; · (first | exact Nat.le_refl _ | (simp; done) | (simp; omega) | omega)) | (with_reducible apply Below.drew) | (with_reducible apply below_drewN') | (refine Below.trans ?_ (Below.mono (by assumption) (by first | exact Nat.le_refl _ | (simp; done) | (simp; omega) | omega))) | exact Below.refl _ _ | assumption))⟩

theorem direct_any (w : World) :
    Calls Tryz.prog 16 #[] w fun e w' => e = .returned (.agg (suC dirN dirS)) ∧ Below w.heap.size w w' := by
  go_enter Tryz.func16, Tryz.ntmps16
  go_wp2_with fail
  have b0 := Blk.new w 34 #[.string ⟨#[]⟩, .int .i64 0, .int .i64 0, .int .i64 0, .int .i64 0, .int .i64 0, .int .i64 0, .int .i64 0, .int .i64 0, .int .i64 0]
  have hB0 : Below w.heap.size w (w.alloc (.cells #[.string ⟨#[]⟩, .int .i64 0, .int .i64 0, .int .i64 0, .int .i64 0, .int .i64 0, .int .i64 0, .int .i64 0, .int .i64 0, .int .i64 0] 34)) := (Below.refl _ _).alloc (Nat.le_refl _) _
  refine (whole_any _ _).mono ?_
  rintro e w1 ⟨rfl, hB1⟩
  have b1 := b0.below hB1 b0.lt
  have hA1 := hB0.trans (hB1.mono (Below.size hB0))
  clear hB0 hB1 b0
  go_wp2_with fail
  refine (whole_any _ _).mono ?_
  rintro e w2 ⟨rfl, hB2⟩
  have b2 := b1.below hB2 b1.lt
  have hA2 := hA1.trans (hB2.mono (Below.size hA1))
  clear hA1 hB2 b1
  go_wp2_with fail
  refine (whole_any _ _).mono ?_
  rintro e w3 ⟨rfl, hB3⟩
  have b3 := b2.below hB3 b2.lt
  have hA3 := hA2.trans (hB3.mono (Below.size hA2))
  clear hA2 hB3 b2
  have e6 : Blk _ w.heap.size 34 (suC dirN dirS) := Blk.set10 b3 (.string ⟨#[97]⟩) (.int .i64 (-1000)) (.int .i64 1) (.int .i64 1) (.int .i64 0) (.int .i64 1) (.int .i64 3) (.int .i64 1) (.int .i64 1) (.int .i64 1)
  have l3 := b3.lt
  obtain ⟨d0, d1, d2, d3, d4, d5, d6, d7, d8, d9, df⟩ := su_all (sn := ⟨#[]⟩) (s := ⟨0, 0, 0, 0, 0, 0, 0, 0, 0⟩) b3
  obtain ⟨z0, z1, z2, z3, z4, z5, z6, z7, z8, z9, _⟩ := su_all e6
  simp only [dirN, dirS] at z0 z1 z2 z3 z4 z5 z6 z7 z8 z9
  go_wp2
  refine bodyPost_ret (v := .agg (suC dirN dirS)) ?_ rfl ⟨rfl, Below.set10 hA3 (Nat.le_refl _)⟩
  simp [results, Tryz.results16, go_sem, z0, z1, z2, z3, z4, z5, z6, z7, z8, z9, suC, dirN, dirS]

theorem ex_part : partOfR slantJ 0 dirN dirS = ⟨0, 1, 1, 2, 0⟩ := by decide +kernel
def exT : Tk := ⟨0, 100, 2, 10⟩
theorem ex_open : openE exT [38, 20] = 0 := by decide +kernel
theorem ex_anew : anewR exT [38, 20] = [(0, 11), (29, 29), (47, 100)] := by
  have hs : sortV [38, 20] = [20, 38] := by simp [sortV, List.mergeSort, List.MergeSort.Internal.splitInTwo]
  unfold anewR anewV scanV
  rw [hs]
  decide +kernel

end Go.Proofs.YtlnkgjkjdllckaaGreatDoor
