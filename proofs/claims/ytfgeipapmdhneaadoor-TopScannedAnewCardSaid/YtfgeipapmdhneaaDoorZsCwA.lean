/- Contracts of the reference's parts for tracks: copies of numbers, the errors of a track and of readings, equal ranges. -/
import Derived.Laws.AppendOwnNone
import Derived.Test.YtfgeipapmdhneaaDoorZsCvV
namespace Go.Proofs.YtfgeipapmdhneaaDoor
open Go.RowKit

theorem intsC_cells {w : World} {zs : List Int} {a : Addr} {B : Nat} (h : Row w B 1 (some a) zs.length (intsC zs)) : ∀ j u, (intsC zs)[j]? = some u → w.cell? (a.add j) = some u := by
  intro j u hu
  have hj : j < zs.length := by
    have h1 := (List.getElem?_eq_some_iff.1 hu).1
    have h2 := h.1
    omega
  obtain ⟨g, o, e, _, hc⟩ := h.2 (by omega)
  cases e
  rw [Addr.add_lit]
  exact hc j u hu

set_option maxRecDepth 100000 in
set_option maxHeartbeats 1000000 in
theorem copyInts_any (zs : List Int) (A : Option Addr) (c B : Nat) (w : World) (hz : InOk zs A c B w) (hA : A = none → c = 0) :
    Calls Tryd.prog 11 #[.slice A zs.length c] w fun e w' => ∃ v, e = .returned v ∧ w'.ownsRow w.heap.size 3 1 v zs.length (intsC zs) ∧ Below w.heap.size w w' := by
  obtain ⟨z1, z2, hR, hB⟩ := hz
  obtain ⟨i0, hi, iz0, iz1, iz2⟩ := info_parts infoInt
  have own : (w.alloc (.cells #[] 3)).ownsRow w.heap.size 3 1 (.slice (some ⟨w.heap.size, 0, none⟩) 0 0) 0 [] := World.ownsRow_made w #[] 0 (Nat.le_refl _) (by simp [maxLen]) (by simp)
  cases A with
  | none =>
    have h0 : zs.length = 0 := by
      rcases Nat.eq_zero_or_pos zs.length with h | h
      · exact h
      · obtain ⟨_, _, h, _⟩ := hR.2 h; cases h
    have hn : zs = [] := List.eq_nil_of_length_eq_zero h0
    subst hn
    rw [hA rfl]
    go_enter Tryd.func11, Tryd.ntmps11
    go_wp2_with (at_builtin; refine wpList_append_own_none rfl _ _ 24 rfl w.heap.size 3 i0 1 Tryd.underlying24 hi _ _ _ rfl own rfl ?_)
    go_wp2
    go_ret
    exact ⟨_, rfl, own, (Below.refl _ _).alloc (Nat.le_refl _) _⟩
  | some a =>
    have hcs := intsC_cells hR
    go_enter Tryd.func11, Tryd.ntmps11
    go_wp2_with (at_builtin; refine wpList_append_own _ rfl _ _ 24 rfl w.heap.size 3 i0 (.int .i64 0) 1 8 Tryd.underlying24 hi iz0 iz1 iz2 rfl (by decide) _ _ _ rfl own a zs.length c (intsC zs) rfl (by simp [intsC]) ?c1 ?c2 ?c3 ?c4 ?c5 ?_)
    case c1 => exact (intsC_cells (hR.alloc hB _))
    case c2 => intro u hu; simp [intsC] at hu; obtain ⟨x, _, rfl⟩ := hu; rfl
    case c3 => unfold maxLen; omega
    case c4 => omega
    case c5 => simp
    intro v' w3 own3 hgrow _
    have hB3 : Below w.heap.size w w3 := below_own ((Below.refl _ _).alloc (Nat.le_refl _) _) (Nat.le_refl _) own hgrow
    go_wp2
    go_ret
    exact ⟨_, rfl, by simpa using own3, hB3⟩

set_option maxHeartbeats 1000000 in
theorem rCheckTrack_any (t : Tk) (w : World) :
    Calls Tryd.prog 5 #[.agg (tkC t)] w fun e w' => e = .returned (.int .i64 (trackE t)) ∧ Below w.heap.size w w' := by
  unfold tkC
  cases h1 : wi t.frm 0 1000000
  · have HE : Hid (trackE t = 2) := by unfold trackE; rw [h1]; rfl
    go_enter Tryd.func5, Tryd.ntmps5
    go_wp2_with (go_at_call 16; refine (bWithin_any _ _ _ _).mono ?_; rintro e w1 ⟨rfl, rfl⟩)
    go_ret
    exact ⟨by rw [HE.out]; rfl, (by repeat (first | (with_reducible exact Below.refl _ _) | (with_reducible assumption) | ((with_reducible refine Below.setCell ?_ ?_ _); rotate_left; · (first | exact Nat.le_refl _ | (simp; done) | (simp; omega) | omega)) | ((with_reducible refine Below.alloc ?_ ?_ _); rotate_left; · (first | exact Nat.le_refl _ | (simp; done) | (simp; omega) | omega)) | (with_reducible apply Below.drew) | (with_reducible apply below_drewN') | (refine Below.trans ?_ (Below.mono (by assumption) (by first | exact Nat.le_refl _ | (simp; done) | (simp; omega) | omega))) | exact Below.refl _ _ | assumption))⟩
  · cases h2 : wi t.til 0 1000000
    · have HE : Hid (trackE t = 2) := by unfold trackE; rw [h1, h2]; rfl
      go_enter Tryd.func5, Tryd.ntmps5
      go_wp2_with (go_at_call 16; refine (bWithin_any _ _ _ _).mono ?_; rintro e w1 ⟨rfl, rfl⟩)
      go_ret
      exact ⟨by rw [HE.out]; rfl, (by repeat (first | (with_reducible exact Below.refl _ _) | (with_reducible assumption) | ((with_reducible refine Below.setCell ?_ ?_ _); rotate_left; · (first | exact Nat.le_refl _ | (simp; done) | (simp; omega) | omega)) | ((with_reducible refine Below.alloc ?_ ?_ _); rotate_left; · (first | exact Nat.le_refl _ | (simp; done) | (simp; omega) | omega)) | (with_reducible apply Below.drew) | (with_reducible apply below_drewN') | (refine Below.trans ?_ (Below.mono (by assumption) (by first | exact Nat.le_refl _ | (simp; done) | (simp; omega) | omega))) | exact Below.refl _ _ | assumption))⟩
    · cases h3 : wi t.slip 0 1000000
      · have HE : Hid (trackE t = 2) := by unfold trackE; rw [h1, h2, h3]; rfl
        go_enter Tryd.func5, Tryd.ntmps5
        go_wp2_with (go_at_call 16; refine (bWithin_any _ _ _ _).mono ?_; rintro e w1 ⟨rfl, rfl⟩)
        go_ret
        exact ⟨by rw [HE.out]; rfl, (by repeat (first | (with_reducible exact Below.refl _ _) | (with_reducible assumption) | ((with_reducible refine Below.setCell ?_ ?_ _); rotate_left; · (first | exact Nat.le_refl _ | (simp; done) | (simp; omega) | omega)) | ((with_reducible refine Below.alloc ?_ ?_ _); rotate_left; · (first | exact Nat.le_refl _ | (simp; done) | (simp; omega) | omega)) | (with_reducible apply Below.drew) | (with_reducible apply below_drewN') | (refine Below.trans ?_ (Below.mono (by assumption) (by first | exact Nat.le_refl _ | (simp; done) | (simp; omega) | omega))) | exact Below.refl _ _ | assumption))⟩
      · cases h4 : wi t.reach 0 1000000
        · have HE : Hid (trackE t = 2) := by unfold trackE; rw [h1, h2, h3, h4]; rfl
          go_enter Tryd.func5, Tryd.ntmps5
          go_wp2_with (go_at_call 16; refine (bWithin_any _ _ _ _).mono ?_; rintro e w1 ⟨rfl, rfl⟩)
          go_ret
          exact ⟨by rw [HE.out]; rfl, (by repeat (first | (with_reducible exact Below.refl _ _) | (with_reducible assumption) | ((with_reducible refine Below.setCell ?_ ?_ _); rotate_left; · (first | exact Nat.le_refl _ | (simp; done) | (simp; omega) | omega)) | ((with_reducible refine Below.alloc ?_ ?_ _); rotate_left; · (first | exact Nat.le_refl _ | (simp; done) | (simp; omega) | omega)) | (with_reducible apply Below.drew) | (with_reducible apply below_drewN') | (refine Below.trans ?_ (Below.mono (by assumption) (by first | exact Nat.le_refl _ | (simp; done) | (simp; omega) | omega))) | exact Below.refl _ _ | assumption))⟩
        · have HE0 : Hid (trackE t = if t.til < t.frm then 9 else 0) := by unfold trackE; rw [h1, h2, h3, h4]; rfl
          by_cases h5 : t.til < t.frm
          · have HE : Hid (trackE t = 9) := Lib.hid (by rw [HE0.out, if_pos h5])
            go_enter Tryd.func5, Tryd.ntmps5
            go_wp2_with (go_at_call 16; refine (bWithin_any _ _ _ _).mono ?_; rintro e w1 ⟨rfl, rfl⟩)
            go_ret
            exact ⟨by rw [HE.out]; rfl, (by repeat (first | (with_reducible exact Below.refl _ _) | (with_reducible assumption) | ((with_reducible refine Below.setCell ?_ ?_ _); rotate_left; · (first | exact Nat.le_refl _ | (simp; done) | (simp; omega) | omega)) | ((with_reducible refine Below.alloc ?_ ?_ _); rotate_left; · (first | exact Nat.le_refl _ | (simp; done) | (simp; omega) | omega)) | (with_reducible apply Below.drew) | (with_reducible apply below_drewN') | (refine Below.trans ?_ (Below.mono (by assumption) (by first | exact Nat.le_refl _ | (simp; done) | (simp; omega) | omega))) | exact Below.refl _ _ | assumption))⟩
          · have HE : Hid (trackE t = 0) := Lib.hid (by rw [HE0.out, if_neg h5])
            go_enter Tryd.func5, Tryd.ntmps5
            go_wp2_with (go_at_call 16; refine (bWithin_any _ _ _ _).mono ?_; rintro e w1 ⟨rfl, rfl⟩)
            go_ret
            exact ⟨by rw [HE.out]; rfl, (by repeat (first | (with_reducible exact Below.refl _ _) | (with_reducible assumption) | ((with_reducible refine Below.setCell ?_ ?_ _); rotate_left; · (first | exact Nat.le_refl _ | (simp; done) | (simp; omega) | omega)) | ((with_reducible refine Below.alloc ?_ ?_ _); rotate_left; · (first | exact Nat.le_refl _ | (simp; done) | (simp; omega) | omega)) | (with_reducible apply Below.drew) | (with_reducible apply below_drewN') | (refine Below.trans ?_ (Below.mono (by assumption) (by first | exact Nat.le_refl _ | (simp; done) | (simp; omega) | omega))) | exact Below.refl _ _ | assumption))⟩

set_option maxHeartbeats 1000000 in
theorem rReadingsErr_any (zs : List Int) (A : Option Addr) (c B : Nat) (w : World) (hz : InOk zs A c B w) :
    Calls Tryd.prog 6 #[.slice A zs.length c] w fun e w' => e = .returned (.int .i64 (readE zs)) ∧ Below w.heap.size w w' := by
  obtain ⟨z1, z2, hR, hB⟩ := hz
  by_cases h2 : 200 < zs.length
  · have h2' : (200 : Int) < (zs.length : Int) := by omega
    have HE : Hid (readE zs = 8) := by unfold readE; rw [if_pos h2]; rfl
    go_enter Tryd.func6, Tryd.ntmps6
    go_wp2
    go_ret
    exact ⟨by rw [HE.out]; rfl, (by repeat (first | (with_reducible exact Below.refl _ _) | (with_reducible assumption) | ((with_reducible refine Below.setCell ?_ ?_ _); rotate_left; · (first | exact Nat.le_refl _ | (simp; done) | (simp; omega) | omega)) | ((with_reducible refine Below.alloc ?_ ?_ _); rotate_left; · (first | exact Nat.le_refl _ | (simp; done) | (simp; omega) | omega)) | (with_reducible apply Below.drew) | (with_reducible apply below_drewN') | (refine Below.trans ?_ (Below.mono (by assumption) (by first | exact Nat.le_refl _ | (simp; done) | (simp; omega) | omega))) | exact Below.refl _ _ | assumption))⟩
  · have h2' : (zs.length : Int) ≤ 200 := by omega
    have HO : Hid (readE zs = if zs.all (fun p => wi p (-2000000) 2000000) then 0 else 2) := by unfold readE; rw [if_neg h2]; rfl
    go_enter Tryd.func6, Tryd.ntmps6
    go_wp2
    go_loopw [3] (fun i wr => ∃ k : Nat, k ≤ zs.length ∧ i = .int .i64 k ∧ Hid ((zs.take k).all (fun p => wi p (-2000000) 2000000) = true) ∧ Below w.heap.size w wr) (fun i _ => zs.length - (intOf i).toNat)
    case atStart => exact ⟨0, Nat.zero_le _, rfl, rfl, Below.refl _ _⟩
    case round =>
      obtain ⟨k, hk, rfl, HK, hBr⟩ := hrel
      by_cases hlt : k < zs.length
      · obtain ⟨g, o, hA, hg, hcs⟩ := (hR.below hBr hB).2 (by omega)
        have c0 := hcs k _ (intsC_get zs k hlt)
        subst hA
        clear hcs
        cases hq : wi zs[k] (-2000000) 2000000
        · have HE : Hid (readE zs = 2) := by
            rw [HO.out, if_neg]
            · rfl
            · intro h; rw [List.all_eq_true.1 h zs[k] (List.getElem_mem hlt)] at hq; cases hq
          go_wp2_with (go_at_call 16; refine (bWithin_any _ _ _ _).mono ?_; rintro e w1 ⟨rfl, rfl⟩)
          go_ret
          exact ⟨by rw [HE.out]; rfl, hBr⟩
        · have HQ := Lib.hid hq
          go_wp2_with (go_at_call 16; refine (bWithin_any _ _ _ _).mono ?_; rintro e w1 ⟨rfl, rfl⟩)
          go_roundw
          case rel => exact ⟨k + 1, by omega, by go_num, Lib.hid (by rw [List.take_succ_eq_append_getElem hlt, List.all_append, HK.out]; simp [HQ.out]), hBr⟩
          case measure => simp [intOf]; omega
      · obtain rfl : k = zs.length := by omega
        have HE : Hid (readE zs = 0) := by
          rw [HO.out, if_pos]
          · rfl
          · rw [← HK.out, List.take_length]
        go_wp2
        go_ret
        exact ⟨by rw [HE.out]; rfl, hBr⟩
end Go.Proofs.YtfgeipapmdhneaaDoor
