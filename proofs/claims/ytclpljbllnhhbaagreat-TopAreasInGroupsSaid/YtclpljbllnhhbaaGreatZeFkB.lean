/- Contract: whether a list has a number; an order of marks, built up. -/
import Derived.Test.YtclpljbllnhhbaaGreatZeFkA
import Derived.Test.YtclpljbllnhhbaaGreatZeFcH
import Derived.Test.YtclpljbllnhhbaaGreatZeFeB
namespace Go.Proofs.YtclpljbllnhhbaaGreat
open Go.RowKit

theorem intAtQ {w : World} {B : Nat} {A : Option Addr} {zs : List Int} (h : Row w B 1 A zs.length (intsC zs)) {k : Nat} (hk : k < zs.length) : ∃ g o, A = some ⟨g, o, none⟩ ∧ g < B ∧ w.cell? ⟨g, o + k, none⟩ = some (.int .i64 zs[k]) := by
  obtain ⟨g, o, hA, hg, hc⟩ := h.2 (by omega)
  exact ⟨g, o, hA, hg, hc k _ (by simp [intsC, List.getElem?_eq_getElem hk])⟩

set_option maxRecDepth 100000 in
set_option maxHeartbeats 1000000 in
theorem bHas_any (zs : List Int) (A : Option Addr) (c B : Nat) (n : Int) (w : World) (hR : Row w B 1 A zs.length (intsC zs)) (hl : zs.length ≤ 9223372036854775807) (hB : B ≤ w.heap.size) :
    Calls Tryz.prog 18 #[.slice A zs.length c, .int .i64 n] w fun e w' => e = .returned (.bool (zs.contains n)) ∧ w = w' := by
  go_enter Tryz.func18, Tryz.ntmps18
  go_wp2
  go_loopw [5] (fun i wr => ∃ k : Nat, k ≤ zs.length ∧ i = .int .i64 k ∧ Hid (∀ j (h : j < zs.length), j < k → zs[j] ≠ n) ∧ w = wr) (fun i _ => zs.length - (intOf i).toNat)
  case atStart => exact ⟨0, Nat.zero_le _, rfl, Lib.hid (fun j _ hj => absurd hj (by omega)), rfl⟩
  case round =>
    obtain ⟨k, hk, rfl, HI, rfl⟩ := hrel
    by_cases hlt : k < zs.length
    · obtain ⟨g, o, hA, hg, c0⟩ := intAtQ hR hlt
      have i1 : ((k : Int) < (zs.length : Int)) := by omega
      have hgw : g < w.heap.size := by omega
      by_cases he : zs[k] = n
      · have HE : Hid (zs.contains n = true) := Lib.hid (List.contains_iff_mem.2 (he ▸ List.getElem_mem hlt))
        rw [he] at c0
        clear he
        subst hA
        go_wp2
        go_ret
        exact ⟨by rw [HE.out]; rfl, rfl⟩
      · have HX : Hid (∀ j (h : j < zs.length), j < k + 1 → zs[j] ≠ n) := Lib.hid (fun j hj hjk => by
          by_cases e : j = k
          · subst e; exact he
          · exact HI.out j hj (by omega))
        have he' : (zs[k] == n) = false := by simpa using he
        generalize zs[k] = z at *
        clear he
        subst hA
        go_wp2
        exact ⟨⟨k + 1, by omega, by go_num, HX, by first | trivial | rfl⟩, by simp [intOf]; omega⟩
    · obtain rfl : k = zs.length := by omega
      have HE : Hid (zs.contains n = false) := Lib.hid (by
        cases hc : zs.contains n
        · rfl
        · obtain ⟨j, hj, e⟩ := List.getElem_of_mem (List.contains_iff_mem.1 hc)
          exact absurd e (HI.out j hj hj))
      go_wp2
      go_ret
      exact ⟨by rw [HE.out]; rfl, rfl⟩

end Go.Proofs.YtclpljbllnhhbaaGreat
