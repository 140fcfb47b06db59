/- Plain law of what is scanned and what must be scanned anew. -/
import Derived.Test.YtfbnpfhnffahdaaGreatDoorCwC
namespace Go.Proofs.YtfbnpfhnffahdaaGreatDoor
open Go.RowKit

theorem sort_iff (zs : List Int) (p : Int) : p ∈ sortV zs ↔ p ∈ zs := (List.mergeSort_perm zs _).mem_iff
theorem scan_canon (t : Tk) (zs : List Int) : CtPlain.Canon t.frm (scanV t zs) := (CtPlain.join_spec t.frm t.til t.slip t.reach (sortV zs) (sortV_sorted zs)).1
theorem has_scan (t : Tk) (zs : List Int) (x : Int) : CtPlain.Has (scanV t zs) x ↔ (t.frm ≤ x ∧ x ≤ t.til) ∧ ∃ p ∈ zs, p + t.slip - t.reach ≤ x ∧ x ≤ p - t.slip + t.reach := by
  have h := (CtPlain.join_spec t.frm t.til t.slip t.reach (sortV zs) (sortV_sorted zs)).2 x
  simp only [sort_iff] at h
  exact h
theorem anew_both (t : Tk) (zs : List Int) (hft : t.frm ≤ t.til) : CtPlain.Canon t.frm (anewV t zs) ∧ ∀ x, CtPlain.Has (anewV t zs) x ↔ (t.frm ≤ x ∧ x ≤ t.til) ∧ ¬ CtPlain.Has (scanV t zs) x :=
  CtPlain.anew_spec (scan_canon t zs) (fun x hx => (((has_scan t zs x).1 hx).1).2) (by omega)
/-- In any order of the readings. -/
theorem anew_mem (t : Tk) (zs zs' : List Int) (hft : t.frm ≤ t.til) (h : ∀ p, p ∈ zs ↔ p ∈ zs') : anewV t zs = anewV t zs' := by
  refine CtPlain.canon_eq _ _ _ _ (anew_both t zs hft).1 (anew_both t zs' hft).1 fun x => ?_
  rw [(anew_both t zs hft).2, (anew_both t zs' hft).2, has_scan, has_scan]
  simp only [h]
/-- With more readings no more must be scanned anew. -/
theorem anew_more (t : Tk) (zs zs' : List Int) (hft : t.frm ≤ t.til) (h : ∀ p, p ∈ zs → p ∈ zs') (x : Int) (hx : CtPlain.Has (anewV t zs') x) : CtPlain.Has (anewV t zs) x := by
  rw [(anew_both t zs' hft).2] at hx
  rw [(anew_both t zs hft).2]
  refine ⟨hx.1, fun hs => hx.2 ?_⟩
  rw [has_scan] at hs ⊢
  obtain ⟨a, p, hp, hb⟩ := hs
  exact ⟨a, p, h p hp, hb⟩
/-- Just one of both. -/
theorem anew_one (t : Tk) (zs : List Int) (hft : t.frm ≤ t.til) (x : Int) (hx : t.frm ≤ x ∧ x ≤ t.til) : CtPlain.Has (anewV t zs) x ↔ ¬ CtPlain.Has (scanV t zs) x := by
  rw [(anew_both t zs hft).2]; exact ⟨fun h => h.2, fun h => ⟨hx, h⟩⟩
theorem scan_length (t : Tk) (zs : List Int) : (scanV t zs).length ≤ zs.length := by
  have h1 : (scanV t zs).length ≤ 0 + (sortV zs).length := outV_len t (sortV zs) []
  have h2 := sortV_length zs
  omega
theorem left_length : ∀ (l : List (Int × Int)) (a : Int), (CtPlain.left a l).length ≤ l.length
  | [], _ => Nat.le_refl _
  | r :: t, a => by
    have := left_length t (r.2 + 1)
    simp only [CtPlain.left, List.length_append, List.length_cons]
    split <;> simp <;> omega
theorem anew_length (t : Tk) (zs : List Int) : (anewV t zs).length ≤ zs.length + 1 := by
  have h1 := left_length (scanV t zs ++ [(t.til + 1, t.til + 1)]) t.frm
  have h2 := scan_length t zs
  show (CtPlain.left t.frm (scanV t zs ++ [(t.til + 1, t.til + 1)])).length ≤ _
  simp at h1; omega

/-- Whether a number is in a range. -/
def hasB (l : List (Int × Int)) (x : Int) : Bool := l.any fun r => wi x r.1 r.2
theorem hasB_iff (l : List (Int × Int)) (x : Int) : hasB l x = true ↔ CtPlain.Has l x := by
  simp [hasB, wi, CtPlain.Has]
theorem hasB_one (t : Tk) (zs : List Int) (hft : t.frm ≤ t.til) (x : Int) (hx : t.frm ≤ x ∧ x ≤ t.til) : hasB (anewV t zs) x = !hasB (scanV t zs) x := by
  have h := anew_one t zs hft x hx
  rw [← hasB_iff, ← hasB_iff] at h
  cases h1 : hasB (anewV t zs) x <;> cases h2 : hasB (scanV t zs) x <;> simp_all

set_option maxRecDepth 100000 in
set_option maxHeartbeats 1000000 in
theorem lawHas_any (l : List (Int × Int)) (x : Int) (A : Option Addr) (c B : Nat) (w : World) (hl : l.length ≤ 1000000000) (hR : Row w B 2 A l.length (rngsC l)) (hB : B ≤ w.heap.size) :
    Calls Tryz.prog 32 #[.slice A l.length c, .int .i64 x] w fun e w' => e = .returned (.bool (hasB l x)) ∧ Below w.heap.size w w' := by
  go_enter Tryz.func32, Tryz.ntmps32
  go_wp2
  go_loopw [5] (fun i wr => ∃ k : Nat, k ≤ l.length ∧ i = .int .i64 k ∧ Hid (hasB (l.take k) x = false) ∧ Below w.heap.size w wr) (fun i _ => l.length - (intOf i).toNat)
  case atStart => exact ⟨0, Nat.zero_le _, rfl, rfl, Below.refl _ _⟩
  case round =>
    obtain ⟨k, hk, rfl, HK, hBr⟩ := hrel
    by_cases hlt : k < l.length
    · obtain ⟨g, o, hA, hg, r0, r1⟩ := rngsC_cells (hR.below hBr hB) hlt
      have HS := Lib.hid (any_take_snoc l k hlt (fun r => wi x r.1 r.2))
      have HY := Lib.hid (any_of_take l k hlt (fun r => wi x r.1 r.2))
      subst hA
      have hsr := Below.size hBr
      have lg : g < wr.heap.size := by omega
      have j0 : (0 : Int) ≤ (k : Int) := by omega
      have j1 : (k : Int) < (l.length : Int) := by omega
      generalize l[k] = p at *
      cases hq : wi x p.1 p.2
      · have HQ := Lib.hid hq; clear hq
        go_wp2_with fail
        refine wp_region_b 12 (by kernel_rfl) (by kernel_rfl) ?_; simp only [List.take_succ_cons, List.take_zero, List.drop_succ_cons, List.drop_zero, List.drop_nil]
        repeat (first
          | (apply StepsD.run
             · go_simp
               done
             · intro w' hS K hK
               have hc := (bcell hS).1
               have hf := (bcell hS).2
               have hz := hS.size
               try simp at hz
               go_simp
               try go_bits
               first
                 | exact hK _ hS
                 | (go_at_call 20; refine (bWithin_any _ _ _ _).mono ?_; rw [HQ.out]; rintro e w1 ⟨rfl, rfl⟩; exact hK _ hS)
                 | exact hK _ (by repeat (first | (with_reducible exact Below.refl _ _) | (with_reducible assumption) | ((with_reducible refine Below.setCell ?_ ?_ _); rotate_left; · (first | exact Nat.le_refl _ | (simp; done) | (simp; omega) | omega)) | ((with_reducible refine Below.alloc ?_ ?_ _); rotate_left; · (first | exact Nat.le_refl _ | (simp; done) | (simp; omega) | omega)) | (with_reducible apply Below.drew) | (with_reducible apply below_drewN') | (refine Below.trans ?_ (Below.mono (by assumption) (by first | exact Nat.le_refl _ | (simp; done) | (simp; omega) | omega))) | exact Below.refl _ _ | assumption))
             · simp [Act.put]
               done)
          | (apply StepsD.pass
             · go_simp
               done
             · simp only [Act.put, List.setIfInBounds_toArray, List.set_cons_succ, List.set_cons_zero]
               rfl))
        refine StepsD.done ?_
        intro w' hS
        go_wp2
        go_roundw
        case rel => exact ⟨k + 1, by omega, by go_num, Lib.hid (by unfold hasB; rw [HS.out]; have := HK.out; unfold hasB at this; rw [this, HQ.out]; rfl), hBr.trans (hS.mono hsr)⟩
        case measure => simp [intOf]; omega
      · have HQ := Lib.hid hq; clear hq
        go_wp2_with fail
        refine wp_region_b 12 (by kernel_rfl) (by kernel_rfl) ?_; simp only [List.take_succ_cons, List.take_zero, List.drop_succ_cons, List.drop_zero, List.drop_nil]
        repeat (first
          | (apply StepsD.run
             · go_simp
               done
             · intro w' hS K hK
               have hc := (bcell hS).1
               have hf := (bcell hS).2
               have hz := hS.size
               try simp at hz
               go_simp
               try go_bits
               first
                 | exact hK _ hS
                 | (go_at_call 20; refine (bWithin_any _ _ _ _).mono ?_; rw [HQ.out]; rintro e w1 ⟨rfl, rfl⟩; exact hK _ hS)
                 | exact hK _ (by repeat (first | (with_reducible exact Below.refl _ _) | (with_reducible assumption) | ((with_reducible refine Below.setCell ?_ ?_ _); rotate_left; · (first | exact Nat.le_refl _ | (simp; done) | (simp; omega) | omega)) | ((with_reducible refine Below.alloc ?_ ?_ _); rotate_left; · (first | exact Nat.le_refl _ | (simp; done) | (simp; omega) | omega)) | (with_reducible apply Below.drew) | (with_reducible apply below_drewN') | (refine Below.trans ?_ (Below.mono (by assumption) (by first | exact Nat.le_refl _ | (simp; done) | (simp; omega) | omega))) | exact Below.refl _ _ | assumption))
             · simp [Act.put]
               done)
          | (apply StepsD.pass
             · go_simp
               done
             · simp only [Act.put, List.setIfInBounds_toArray, List.set_cons_succ, List.set_cons_zero]
               rfl))
        refine StepsD.done ?_
        intro w' hS
        go_wp2
        go_ret
        exact ⟨by unfold hasB; rw [HY.out HQ.out]; rfl, hBr.trans (hS.mono hsr)⟩
    · obtain rfl : k = l.length := by omega
      have HE : Hid (hasB l x = false) := by have := HK.out; rw [List.take_length] at this; exact Lib.hid this
      go_wp2
      go_ret
      exact ⟨by rw [HE.out]; rfl, hBr⟩
end Go.Proofs.YtfbnpfhnffahdaaGreatDoor
