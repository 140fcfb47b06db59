/- The law FlawScans answers true. Scans told in another order, and cut: what lies in memory; regions of the law FlawAnyOrder. The loop of the law FlawAnyOrder. -/
import Derived.Test.YtidgeagpgllkeaaGreatZaFgC
import Derived.Test.YtidgeagpgllkeaaGreatZaFcP
import Derived.Test.YtidgeagpgllkeaaGreatZaFjD
import Derived.Test.YtidgeagpgllkeaaGreatZaFjG
import Derived.Test.YtidgeagpgllkeaaGreatZaFeB
namespace Go.Proofs.YtidgeagpgllkeaaGreat
open Go.RowKit

theorem fewB_true {l : List Sc} (h : fewB l = true) : l.length ≤ 8 ∧ ∀ s ∈ l, s.data.length ≤ 36 := by
  unfold fewB at h
  split at h
  · cases h
  · exact ⟨by omega, fun m hm => of_decide_eq_true (List.all_eq_true.1 h m hm)⟩
set_option maxRecDepth 100000 in
set_option maxHeartbeats 1000000 in
theorem few_wide (l : List Sc) (A : Option Addr) (c B : Nat) (w : World) (hn : l.length ≤ 9223372036854775807) (hR : Row w B 5 A l.length (scsC l)) (hsz : Hid (∀ s ∈ l, s.data.length ≤ 9223372036854775807)) (hB : B ≤ w.heap.size) :
    Calls Tryz.prog 19 #[.slice A l.length c] w fun e w' => e = .returned (.bool (fewB l)) ∧ Below w.heap.size w w' := by
  by_cases hbad : (4 < l.length ∧ l.length ≤ 6) ∨ 8 < l.length
  · have HE : Hid (fewB l = false) := Lib.hid (by unfold fewB; rw [if_pos hbad])
    go_enter Tryz.func19, Tryz.ntmps19
    rcases hbad with ⟨h1, h2⟩ | h1
    all_goals
      go_wp2
      go_ret
      exact ⟨by rw [HE.out]; rfl, (by repeat (first | (with_reducible exact Below.refl _ _) | (with_reducible assumption) | ((with_reducible refine Below.setCell ?_ ?_ _); rotate_left; · (first | exact Nat.le_refl _ | (simp; done) | (simp; omega) | omega)) | ((with_reducible refine Below.alloc ?_ ?_ _); rotate_left; · (first | exact Nat.le_refl _ | (simp; done) | (simp; omega) | omega)) | (with_reducible apply Below.drew) | (with_reducible apply below_drewN') | (refine Below.trans ?_ (Below.mono (by assumption) (by first | exact Nat.le_refl _ | (simp; done) | (simp; omega) | omega))) | exact Below.refl _ _ | assumption))⟩
  · have HV : Hid (fewB l = l.all (fun s => decide (s.data.length ≤ 36))) := Lib.hid (by unfold fewB; rw [if_neg hbad])
    have hlen : l.length ≤ 4 ∨ (6 < l.length ∧ l.length ≤ 8) := by omega
    clear hbad
    go_enter Tryz.func19, Tryz.ntmps19
    rcases hlen with h1 | ⟨h1, h2⟩
    all_goals
      go_wp2
      go_loopw [3] (fun i wr => ∃ k : Nat, k ≤ l.length ∧ i = .int .i64 k ∧ Hid (∀ j (h : j < l.length), j < k → l[j].data.length ≤ 36) ∧ Below w.heap.size w wr) (fun i _ => l.length - (intOf i).toNat)
      case atStart => exact ⟨0, Nat.zero_le _, rfl, Lib.hid (fun j _ hj => absurd hj (by omega)), Below.refl _ _⟩
      case round =>
        obtain ⟨k, hk, rfl, HI, hBB⟩ := hrel
        have hl' := hR.below hBB hB
        by_cases hlt : k < l.length
        · obtain ⟨g, o, hA, hg, _, _, _, _, c4⟩ := scCells hl' hlt
          have hds := hsz.out l[k] (List.getElem_mem hlt)
          have HX : Hid (36 < l[k].data.length → fewB l = false) := Lib.hid (fun h => by
            rw [HV.out]
            cases hc : l.all (fun s => decide (s.data.length ≤ 36))
            · rfl
            · have := List.all_eq_true.1 hc _ (List.getElem_mem hlt)
              have := of_decide_eq_true this
              omega)
          have HY : Hid (l[k].data.length ≤ 36 → ∀ j (h : j < l.length), j < k + 1 → l[j].data.length ≤ 36) := Lib.hid (fun h j hj hjk => by
            by_cases e : j = k
            · subst e; exact h
            · exact HI.out j hj (by omega))
          generalize l[k].data.length = d at *
          generalize l[k].dA = dA at *
          generalize l[k].dcap = dc at *
          subst hA
          have hzb := Below.size hBB
          by_cases hd : 36 < d
          · have HE := Lib.hid (HX.out hd)
            clear HX HY
            go_wp2
            go_ret
            exact ⟨by rw [HE.out]; rfl, hBB⟩
          · have HE := Lib.hid (HY.out (by omega))
            clear HX HY
            go_wp2
            refine ⟨⟨k + 1, by omega, by go_num, HE, hBB⟩, by simp [intOf]; omega⟩
        · obtain rfl : k = l.length := by omega
          have HE : Hid (fewB l = true) := Lib.hid (by
            rw [HV.out, List.all_eq_true]
            intro s hs
            obtain ⟨j, hj, rfl⟩ := List.getElem_of_mem hs
            exact decide_eq_true (HI.out j hj hj))
          go_wp2
          go_ret
          exact ⟨by rw [HE.out]; rfl, hBB⟩
/-- What an argument of scans brings. -/
structure ScArg (l : List Sc) (A : Option Addr) (c : Nat) (w : World) : Prop where
  nil : A = none → c = 0
  row : Row w w.heap.size 5 A l.length (scsC l)
  le : l.length ≤ c
  most : c ≤ 9223372036854775807
  each : ∀ s ∈ l, (s.dA = none → s.dcap = 0) ∧ Row w w.heap.size 1 s.dA s.data.length (intsC s.data) ∧ s.data.length ≤ s.dcap ∧ s.dcap ≤ 9223372036854775807
theorem ScArg.ok {l : List Sc} {A : Option Addr} {c : Nat} {w : World} (h : ScArg l A c w) (hf : fewB l = true) : ScOk l A w.heap.size w :=
  ⟨by have := (fewB_true hf).1; omega, h.row, fun s hs => by have := (fewB_true hf).2 s hs; omega, fun s hs => (h.each s hs).2.1⟩

end Go.Proofs.YtidgeagpgllkeaaGreat

namespace Go.Proofs.YtidgeagpgllkeaaGreat
open Go.RowKit

theorem cell_arr_new (w : World) (cs : Array Value) (t : TypeId) : ∀ j u, cs.toList[j]? = some u → (w.alloc (.cells cs t)).cell? ((⟨w.heap.size, 0, none⟩ : Addr).add j) = some u := by
  intro j u hj
  rw [Addr.add_lit, Nat.zero_add]
  exact (Blk.new w t cs).cell j |>.trans (by simpa using hj)
theorem own_two' {w : World} {b1 b2 e1 e2 s1 s2 n1 n2 : Nat} {v1 v2 : Value} {xs1 xs2 : List Value} (h1 : w.ownsRow b1 e1 s1 v1 n1 xs1) (h2 : w.ownsRow b2 e2 s2 v2 n2 xs2) (hne : e1 ≠ e2) : v1.ownBlock = none ∨ v1.ownBlock ≠ v2.ownBlock := by
  rcases h1.2 with ⟨rfl, _⟩ | ⟨g, cap, cur, rfl, _, hh, _⟩
  · exact .inl rfl
  · right
    rcases h2.2 with ⟨rfl, _⟩ | ⟨g', cap', cur', rfl, _, hh', _⟩
    · simp [Value.ownBlock]
    · intro e
      have e' : g = g' := by simpa [Value.ownBlock] using e
      subst e'
      rw [hh] at hh'
      injection hh' with hh'
      injection hh' with _ ht
      exact hne ht

end Go.Proofs.YtidgeagpgllkeaaGreat

namespace Go.Proofs.YtidgeagpgllkeaaGreat
open Go.RowKit

end Go.Proofs.YtidgeagpgllkeaaGreat
