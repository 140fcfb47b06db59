/- Contracts: copies of numbers and of marks. -/
import Derived.Test.YtclpljbllnhhbaaGreatZeFcN
namespace Go.Proofs.YtclpljbllnhhbaaGreat
open Go.RowKit

theorem row_cells {w : World} {xs : List Value} {a : Addr} {B n size : Nat} (h : Row w B size (some a) n xs) : ∀ j u, xs[j]? = some u → w.cell? (a.add j) = some u := by
  intro j u hu
  have hj : 0 < n := by
    have h1 := (List.getElem?_eq_some_iff.1 hu).1
    have h2 := h.1
    rcases Nat.eq_zero_or_pos n with h0 | h0
    · rw [h0, Nat.zero_mul] at h2; omega
    · exact h0
  obtain ⟨g, o, e, _, hc⟩ := h.2 hj
  cases e
  rw [Addr.add_lit]
  exact hc j u hu

set_option maxRecDepth 100000 in
set_option maxHeartbeats 1000000 in
theorem copyInts_any (zs : List Int) (A : Option Addr) (c B : Nat) (w : World) (hR : Row w B 1 A zs.length (intsC zs)) (hz : zs.length ≤ 1000000000) (hc : zs.length ≤ c) (hB : B ≤ w.heap.size) (hA : A = none → c = 0) :
    Calls Tryz.prog 38 #[.slice A zs.length c] w fun e w' => ∃ v, e = .returned v ∧ w'.ownsRow w.heap.size 3 1 v zs.length (intsC zs) ∧ Below w.heap.size w w' := by
  obtain ⟨i0, hi, iz0, iz1, iz2⟩ := info_parts infoInt
  have own : (w.alloc (.cells #[] 3)).ownsRow w.heap.size 3 1 (.slice (some ⟨w.heap.size, 0, none⟩) 0 0) 0 [] := World.ownsRow_made w #[] 0 (Nat.le_refl _) (by simp [maxLen]) (by simp)
  cases A with
  | none =>
    have h0 : zs.length = 0 := by
      rcases Nat.eq_zero_or_pos zs.length with h | h
      · exact h
      · obtain ⟨_, _, h, _⟩ := hR.2 h; cases h
    have hn : zs = [] := List.eq_nil_of_length_eq_zero h0
    subst hn
    rw [hA rfl]
    go_enter Tryz.func38, Tryz.ntmps38
    go_wp2_with (at_builtin; refine wpList_append_own_none rfl _ _ 30 rfl w.heap.size 3 i0 1 Tryz.underlying30 hi _ _ _ rfl own rfl ?_)
    go_wp2
    go_ret
    exact ⟨_, rfl, own, (Below.refl _ _).alloc (Nat.le_refl _) _⟩
  | some a =>
    go_enter Tryz.func38, Tryz.ntmps38
    go_wp2_with (at_builtin; refine wpList_append_own _ rfl _ _ 30 rfl w.heap.size 3 i0 (.int .i64 0) 1 8 Tryz.underlying30 hi iz0 iz1 iz2 rfl (by decide) _ _ _ rfl own a zs.length c (intsC zs) rfl (by simp [intsC]) ?c1 ?c2 ?c3 ?c4 ?c5 ?_)
    case c1 => exact (row_cells (hR.alloc hB _))
    case c2 => intro u hu; simp [intsC] at hu; obtain ⟨x, _, rfl⟩ := hu; rfl
    case c3 => unfold maxLen; omega
    case c4 => omega
    case c5 => simp
    intro v' w3 own3 hgrow _
    have hB3 : Below w.heap.size w w3 := below_own ((Below.refl _ _).alloc (Nat.le_refl _) _) (Nat.le_refl _) own hgrow
    go_wp2
    go_ret
    exact ⟨_, rfl, by simpa using own3, hB3⟩

theorem infoMark : (Tryz.prog.info? 46).map (fun i => (i.zero, i.size, i.bytes)) = some (some (.agg #[.string ⟨#[]⟩, .int .i64 0, .int .i64 0, .int .i64 0, .int .i64 0, .int .i64 0]), 6, 56) := by kernel_rfl
theorem mksC_one (l : List Mk) : ∀ u ∈ mksC l, u.oneCell' = true := by
  intro u hu
  simp only [mksC, List.mem_flatMap] at hu
  obtain ⟨m, _, hm⟩ := hu
  simp at hm
  rcases hm with rfl | rfl | rfl | rfl | rfl | rfl <;> rfl

set_option maxRecDepth 100000 in
set_option maxHeartbeats 1000000 in
theorem copyMarks_any (l : List Mk) (A : Option Addr) (c B : Nat) (w : World) (hl : MkOk l A B w) (hc : l.length ≤ c) (hB : B ≤ w.heap.size) (hA : A = none → c = 0) :
    Calls Tryz.prog 16 #[.slice A l.length c] w fun e w' => ∃ v, e = .returned v ∧ w'.ownsRow w.heap.size 46 6 v l.length (mksC l) ∧ Below w.heap.size w w' := by
  obtain ⟨i0, hi, iz0, iz1, iz2⟩ := info_parts infoMark
  have hlen := hl.len
  have own : (w.alloc (.cells #[] 46)).ownsRow w.heap.size 46 6 (.slice (some ⟨w.heap.size, 0, none⟩) 0 0) 0 [] := World.ownsRow_made w #[] 0 (Nat.le_refl _) (by simp [maxLen]) (by simp)
  cases A with
  | none =>
    have h0 : l.length = 0 := by
      rcases Nat.eq_zero_or_pos l.length with h | h
      · exact h
      · obtain ⟨_, _, h, _⟩ := hl.row.2 h; cases h
    have hn : l = [] := List.eq_nil_of_length_eq_zero h0
    subst hn
    rw [hA rfl]
    go_enter Tryz.func16, Tryz.ntmps16
    go_wp2_with (at_builtin; refine wpList_append_own_none rfl _ _ 38 rfl w.heap.size 46 i0 6 Tryz.underlying38 hi _ _ _ rfl own rfl ?_)
    go_wp2
    go_ret
    exact ⟨_, rfl, own, (Below.refl _ _).alloc (Nat.le_refl _) _⟩
  | some a =>
    have hone := Lib.hid (mksC_one l)
    go_enter Tryz.func16, Tryz.ntmps16
    go_wp2_with (at_builtin; refine wpList_append_own _ rfl _ _ 38 rfl w.heap.size 46 i0 (.agg #[.string ⟨#[]⟩, .int .i64 0, .int .i64 0, .int .i64 0, .int .i64 0, .int .i64 0]) 6 56 Tryz.underlying38 hi iz0 iz1 iz2 rfl (by decide) _ _ _ rfl own a l.length c (mksC l) rfl (mksC_length l) ?c1 ?c2 ?c3 ?c4 ?c5 ?_)
    case c1 => exact (row_cells (hl.row.alloc hB _))
    case c2 => exact hone.out
    case c3 => unfold maxLen; omega
    case c4 => omega
    case c5 => simp
    intro v' w3 own3 hgrow _
    have hB3 : Below w.heap.size w w3 := below_own ((Below.refl _ _).alloc (Nat.le_refl _) _) (Nat.le_refl _) own hgrow
    go_wp2
    go_ret
    exact ⟨_, rfl, by simpa using own3, hB3⟩
end Go.Proofs.YtclpljbllnhhbaaGreat
