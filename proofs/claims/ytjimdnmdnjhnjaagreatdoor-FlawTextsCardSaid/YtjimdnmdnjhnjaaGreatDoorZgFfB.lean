/- Contract: the reference's error of a mark. Contracts: the law's bounds of lists of marks; the reference's errors of marks. -/
import Derived.Deep.DeepCutAuto
import Derived.Test.YtjimdnmdnjhnjaaGreatDoorZgFcG
import Derived.Test.YtjimdnmdnjhnjaaGreatDoorZgFeA
import Derived.Test.YtjimdnmdnjhnjaaGreatDoorZgFcD
namespace Go.Proofs.YtjimdnmdnjhnjaaGreatDoor
open Go.RowKit

theorem index_fst (a b c d : Int) (W : World) : (Instr.index 86 (.agg #[.int .i64 a, .int .i64 b, .int .i64 c, .int .i64 d]) (.int .i64 0)).run Tryz.prog W = .ok (.agg #[.int .i64 a, .int .i64 b]) W := by kernel_rfl
theorem index_snd (a b c d : Int) (W : World) : (Instr.index 86 (.agg #[.int .i64 a, .int .i64 b, .int .i64 c, .int .i64 d]) (.int .i64 1)).run Tryz.prog W = .ok (.agg #[.int .i64 c, .int .i64 d]) W := by kernel_rfl

set_option maxRecDepth 100000 in
set_option maxHeartbeats 1000000 in
theorem refMarkErr_any (m : Mk) (hs : m.nm.size ≤ 1000000000000) (w : World) : Calls Tryz.prog 9 #[.agg (mkC m)] w fun e w' => e = .returned (.int .i64 (markE m)) ∧ Below w.heap.size w w' := by
  have HM : Hid (markE m = if nameB m.nm then (if wi m.al (-1000000) 1000000 && wi m.ah (-1000000) 1000000 then (if wi m.dl (-1000000) 1000000 && wi m.dh (-1000000) 1000000 then (if m.al ≤ m.ah ∧ m.dl ≤ m.dh then (if wi m.lv 0 1000000000 then 0 else 2) else 9) else 2) else 2) else 4) := Lib.hid (by
    unfold markE endsB ordB levelE
    cases nameB m.nm <;> cases wi m.al (-1000000) 1000000 <;> cases wi m.ah (-1000000) 1000000 <;> cases wi m.dl (-1000000) 1000000 <;> cases wi m.dh (-1000000) 1000000 <;> by_cases h1 : m.al ≤ m.ah <;> by_cases h2 : m.dl ≤ m.dh <;> simp [firstE, unlessE, h1, h2])
  have b1 := Blk.new w 25 (mkC m)
  have hBB : Below w.heap.size w (w.alloc (.cells (mkC m) 25)) := (by repeat (first | (with_reducible exact Below.refl _ _) | (with_reducible assumption) | ((with_reducible refine Below.setCell ?_ ?_ _); rotate_left; · (first | exact Nat.le_refl _ | (simp; done) | (simp; omega) | omega)) | ((with_reducible refine Below.alloc ?_ ?_ _); rotate_left; · (first | exact Nat.le_refl _ | (simp; done) | (simp; omega) | omega)) | (with_reducible apply Below.drew) | (with_reducible apply below_drewN') | (refine Below.trans ?_ (Below.mono (by assumption) (by first | exact Nat.le_refl _ | (simp; done) | (simp; omega) | omega))) | exact Below.refl _ _ | assumption))
  obtain ⟨NB, hNB⟩ : ∃ b, nameB m.nm = b := ⟨_, rfl⟩
  have HNB := Lib.hid hNB
  rw [hNB] at HM
  clear hNB
  go_enter Tryz.func9, Tryz.ntmps9
  go_upto_region 1 with fail
  obtain ⟨W, hW⟩ : ∃ W, w.alloc (.cells (mkC m) 25) = W := ⟨_, rfl⟩
  rw [hW] at b1 hBB
  try rw [hW]
  clear hW
  have l_b1 := b1.lt
  obtain ⟨d0, d1, d2, d3, d4, d5, f1⟩ := blk6 b1
  cases NB
  · go_wp2_with (go_at_call 29; refine (bIsName_any _ _ hs).mono ?_; rw [HNB.out]; rintro e w1 ⟨rfl, rfl⟩)
    go_ret
    exact ⟨by rw [HM.out]; rfl, hBB⟩
  · go_wp2_with (go_at_call 29; refine (bIsName_any _ _ hs).mono ?_; rw [HNB.out]; rintro e w1 ⟨rfl, rfl⟩)
    clear d0 d1 d2 d3 d4 d5 f1
    go_loopw [3] (fun i wr => ∃ k : Nat, k ≤ 2 ∧ i = .int .i64 k ∧ Hid ((0 < k → (wi m.al (-1000000) 1000000 && wi m.ah (-1000000) 1000000) = true) ∧ (1 < k → (wi m.dl (-1000000) 1000000 && wi m.dh (-1000000) 1000000) = true)) ∧ Blk wr w.heap.size 25 (mkC m) ∧ Below w.heap.size w wr) (fun i _ => 2 - (intOf i).toNat)
    case atStart => exact ⟨0, by omega, rfl, Lib.hid (by omega), b1, hBB⟩
    case round =>
      obtain ⟨k, hk, rfl, HI, b1', hBB'⟩ := hrel
      clear b1 hBB l_b1
      have hz := b1'.lt
      obtain ⟨d0, d1, d2, d3, d4, d5, f1⟩ := blk6 b1'
      rcases (by omega : k = 0 ∨ k = 1 ∨ k = 2) with rfl | rfl | rfl
      · have hx := index_fst m.al m.ah m.dl m.dh
        have c0 := (Blk.new wr 23 #[.int .i64 m.al, .int .i64 m.ah]).cell 0
        have c1 := (Blk.new wr 23 #[.int .i64 m.al, .int .i64 m.ah]).cell 1
        have b2 := b1'.alloc (.cells #[.int .i64 m.al, .int .i64 m.ah] 23)
        cases hp : wi m.al (-1000000) 1000000 <;> cases hq : wi m.ah (-1000000) 1000000
        all_goals
          have HP := Lib.hid hp
          have HQ := Lib.hid hq
          rw [hp, hq] at HM
          clear hp hq
          go_wp2_with (go_at_call 30; refine (bWithin_any _ _ _ _).mono ?_; (first | rw [HP.out] | rw [HQ.out]); rintro e w1 ⟨rfl, rfl⟩)
        all_goals
          first
            | (go_ret; exact ⟨by rw [HM.out]; rfl, hBB'.alloc (Below.size hBB') _⟩)
            | (refine ⟨⟨1, by omega, rfl, Lib.hid ⟨fun _ => (by first | trivial | (rw [HP.out, HQ.out]; rfl) | rfl), by omega⟩, b2, hBB'.alloc (Below.size hBB') _⟩, by simp [intOf]⟩)
      · have hx := index_snd m.al m.ah m.dl m.dh
        have c0 := (Blk.new wr 23 #[.int .i64 m.dl, .int .i64 m.dh]).cell 0
        have c1 := (Blk.new wr 23 #[.int .i64 m.dl, .int .i64 m.dh]).cell 1
        have b2 := b1'.alloc (.cells #[.int .i64 m.dl, .int .i64 m.dh] 23)
        have h1 := HI.out.1 (by omega)
        rw [h1] at HM
        have H1 := Lib.hid h1
        clear h1
        cases hp : wi m.dl (-1000000) 1000000 <;> cases hq : wi m.dh (-1000000) 1000000
        all_goals
          have HP := Lib.hid hp
          have HQ := Lib.hid hq
          rw [hp, hq] at HM
          clear hp hq
          go_wp2_with (go_at_call 30; refine (bWithin_any _ _ _ _).mono ?_; (first | rw [HP.out] | rw [HQ.out]); rintro e w1 ⟨rfl, rfl⟩)
        all_goals
          first
            | (go_ret; exact ⟨by rw [HM.out]; rfl, hBB'.alloc (Below.size hBB') _⟩)
            | (refine ⟨⟨2, by omega, rfl, Lib.hid ⟨fun _ => H1.out, fun _ => (by first | trivial | (rw [HP.out, HQ.out]; rfl) | rfl)⟩, b2, hBB'.alloc (Below.size hBB') _⟩, by simp [intOf]⟩)
      · have h1 := HI.out.1 (by omega)
        have h2 := HI.out.2 (by omega)
        rw [h1, h2] at HM
        clear h1 h2 HI
        obtain ⟨X, hX⟩ : ∃ X, wi m.lv 0 1000000000 = X := ⟨_, rfl⟩
        have HX := Lib.hid hX
        rw [hX] at HM
        clear hX
        by_cases o1 : m.al ≤ m.ah
        · by_cases o2 : m.dl ≤ m.dh
          · have HE : Hid (markE m = if X then 0 else 2) := Lib.hid (by rw [HM.out]; simp [o1, o2])
            cases X
            all_goals
              go_wp2_with (go_at_call 31; refine (isLevel_any _ _).mono ?_; rw [HX.out]; rintro e w1 ⟨rfl, rfl⟩)
              go_ret
              exact ⟨by rw [HE.out]; rfl, hBB'⟩
          · have HE : Hid (markE m = 9) := Lib.hid (by rw [HM.out]; simp [o2])
            go_wp2
            go_ret
            exact ⟨by rw [HE.out]; rfl, hBB'⟩
        · have HE : Hid (markE m = 9) := Lib.hid (by rw [HM.out]; simp [o1])
          go_wp2
          go_ret
          exact ⟨by rw [HE.out]; rfl, hBB'⟩
end Go.Proofs.YtjimdnmdnjhnjaaGreatDoor

namespace Go.Proofs.YtjimdnmdnjhnjaaGreatDoor
open Go.RowKit

end Go.Proofs.YtjimdnmdnjhnjaaGreatDoor
