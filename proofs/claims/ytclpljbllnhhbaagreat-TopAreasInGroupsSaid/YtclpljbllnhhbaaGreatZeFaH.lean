/- Contract: the length of a drop. -/
import Derived.Test.YtclpljbllnhhbaaGreatZeFaG
namespace Go.Proofs.YtclpljbllnhhbaaGreat
open Go.RowKit

theorem atV_known {l : List Sc} {r c : Int} (h : ∀ s ∈ l, ScGood s) (h0 : 0 ≤ atV l r c) : -100000 ≤ r ∧ r ≤ 100023 ∧ -100000 ≤ c ∧ c ≤ 100023 := by
  have key : ∀ (l : List Sc) (b : Int), (∀ s ∈ l, ScGood s) → b < 0 → 0 ≤ l.foldl (fun b s => atS b s r c) b → ∃ s ∈ l, inB s r c = true := by
    intro l
    induction l with
    | nil => intro b _ hb h; simp at h; omega
    | cons s l ih =>
      intro b hg hb h
      by_cases hi : inB s r c = true
      · exact ⟨s, by simp, hi⟩
      · have e : atS b s r c = b := by unfold atS; rw [if_neg hi]
        rw [List.foldl_cons, e] at h
        obtain ⟨x, hx, hxi⟩ := ih b (fun y hy => hg y (by simp [hy])) hb h
        exact ⟨x, by simp [hx], hxi⟩
  obtain ⟨s, hs, hi⟩ := key l (-1) h (by omega) h0
  have G := h s hs
  have a1 := G.row; have a2 := G.col; have a3 := G.rows; have a4 := G.cols
  simp [inB, wi] at hi
  omega

set_option maxHeartbeats 400000 in
theorem isLowest_any (n d : Int) (hn : -9223372036854775808 ≤ n ∧ n ≤ 9223372036854775807) (hd : -9223372036854775808 ≤ d ∧ d ≤ 9223372036854775807) (w : World) :
    Calls Tryz.prog 66 #[.agg #[.int .i64 n, .int .i64 d]] w fun e w' => e = .returned (.bool (lowB n d)) ∧ Below w.heap.size w w' := by
  go_enter Tryz.func66, Tryz.ntmps66
  go_wp2_with (go_at_call 89; refine (divisor_any _ _ (by omega) (by omega) (by omega) _).mono ?_; rintro e w1 ⟨rfl, hB1⟩; obtain ⟨hc1, hf1⟩ := bcell hB1; have hz1 := hB1.size; (try simp at hz1))
  all_goals
    go_ret
    refine ⟨?_, (by repeat (first | (with_reducible exact Below.refl _ _) | (with_reducible assumption) | ((with_reducible refine Below.setCell ?_ ?_ _); rotate_left; · (first | exact Nat.le_refl _ | (simp; done) | (simp; omega) | omega)) | ((with_reducible refine Below.alloc ?_ ?_ _); rotate_left; · (first | exact Nat.le_refl _ | (simp; done) | (simp; omega) | omega)) | (with_reducible apply Below.drew) | (with_reducible apply below_drewN') | (refine Below.trans ?_ (Below.mono (by assumption) (by first | exact Nat.le_refl _ | (simp; done) | (simp; omega) | omega))) | exact Below.refl _ _ | assumption))⟩
    show Ending.returned (Value.bool _) = _
    congr 2
    grind [lowB]

theorem FMap.base {w : World} {b n : Nat} {g : Int → Int → Int} (h : FMap w b n g) : b < w.heap.size := h.lt
theorem BMap.base {w : World} {b n : Nat} {g : Int → Int → Bool} (h : BMap w b n g) : b < w.heap.size := h.lt

end Go.Proofs.YtclpljbllnhhbaaGreat
