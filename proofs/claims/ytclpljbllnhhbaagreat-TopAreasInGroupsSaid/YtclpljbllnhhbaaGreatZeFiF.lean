/- Contract: a copy of an area. -/
import Derived.Test.YtclpljbllnhhbaaGreatZeFiD
import Derived.Test.YtclpljbllnhhbaaGreatZeFgA
namespace Go.Proofs.YtclpljbllnhhbaaGreat
open Go.RowKit

theorem cellsC_oneQ (l : List (Int × Int)) : ∀ u ∈ cellsC l, u.oneCell' = true := by
  intro u hu
  simp only [cellsC, List.mem_flatMap] at hu
  obtain ⟨p, _, hp⟩ := hu
  simp [encC] at hp
  rcases hp with rfl | rfl <;> rfl
theorem cellsC_lenQ (l : List (Int × Int)) : (cellsC l).length = l.length * 2 := by
  induction l with
  | nil => rfl
  | cons p l ih => simp [cellsC, encC] at ih ⊢; omega

theorem own_set5 {w : World} {base e size n : Nat} {v : Value} {xs : List Value} (h : w.ownsRow base e size v n xs) {x y : Nat} (hx : x < base) (hy : y < base) (u u0 u1 u2 u3 : Value) :
    (((((w.setCell ⟨x, 0, none⟩ u).setCell ⟨y, 0, none⟩ u0).setCell ⟨y, 1, none⟩ u1).setCell ⟨y, 2, none⟩ u2).setCell ⟨y, 3, none⟩ u3).ownsRow base e size v n xs :=
  ownsRow_setCell_below (ownsRow_setCell_below (ownsRow_setCell_below (ownsRow_setCell_below (ownsRow_setCell_below h (a := ⟨x, 0, none⟩) hx u) (a := ⟨y, 0, none⟩) hy u0) (a := ⟨y, 1, none⟩) hy u1) (a := ⟨y, 2, none⟩) hy u2) (a := ⟨y, 3, none⟩) hy u3
set_option maxRecDepth 100000 in
set_option maxHeartbeats 1000000 in
theorem copyArea_any (l : List (Int × Int)) (A : Option Addr) (c B : Nat) (pr pc lv : Int) (w : World) (hR : Row w B 2 A l.length (cellsC l)) (hB : B ≤ w.heap.size) (hl : l.length ≤ 1000000000) (hc : l.length ≤ c) (hA : A = none → c = 0) :
    Calls Tryz.prog 19 #[.agg #[.slice A l.length c, .int .i64 pr, .int .i64 pc, .int .i64 lv]] w fun e w' => ∃ v, e = .returned (.agg #[v, .int .i64 pr, .int .i64 pc, .int .i64 lv]) ∧ w'.ownsRow (w.heap.size + 1 + 1) 39 2 v l.length (cellsC l) ∧ Below w.heap.size w w' := by
  obtain ⟨i0, hi, iz0, iz1, iz2⟩ := info_parts infoCell
  have b1 := ((Blk.new w 42 #[.slice A l.length c, .int .i64 pr, .int .i64 pc, .int .i64 lv]).alloc (.cells #[.slice none 0 0, .int .i64 0, .int .i64 0, .int .i64 0] 42)).alloc (.cells #[] 39)
  have b2 := (Blk.new (w.alloc (.cells #[.slice A l.length c, .int .i64 pr, .int .i64 pc, .int .i64 lv] 42)) 42 #[.slice none 0 0, .int .i64 0, .int .i64 0, .int .i64 0]).alloc (.cells #[] 39)
  have hBB : Below w.heap.size w (((w.alloc (.cells #[.slice A l.length c, .int .i64 pr, .int .i64 pc, .int .i64 lv] 42)).alloc (.cells #[.slice none 0 0, .int .i64 0, .int .i64 0, .int .i64 0] 42)).alloc (.cells #[] 39)) := (by repeat (first | (with_reducible exact Below.refl _ _) | (with_reducible assumption) | ((with_reducible refine Below.setCell ?_ ?_ _); rotate_left; · (first | exact Nat.le_refl _ | (simp; done) | (simp; omega) | omega)) | ((with_reducible refine Below.alloc ?_ ?_ _); rotate_left; · (first | exact Nat.le_refl _ | (simp; done) | (simp; omega) | omega)) | (with_reducible apply Below.drew) | (with_reducible apply below_drewN') | (refine Below.trans ?_ (Below.mono (by assumption) (by first | exact Nat.le_refl _ | (simp; done) | (simp; omega) | omega))) | exact Below.refl _ _ | assumption))
  have own : (((w.alloc (.cells #[.slice A l.length c, .int .i64 pr, .int .i64 pc, .int .i64 lv] 42)).alloc (.cells #[.slice none 0 0, .int .i64 0, .int .i64 0, .int .i64 0] 42)).alloc (.cells #[] 39)).ownsRow (w.heap.size + 1 + 1) 39 2 (.slice (some ⟨w.heap.size + 1 + 1, 0, none⟩) 0 0) 0 [] := by
    have := World.ownsRow_made ((w.alloc (.cells #[.slice A l.length c, .int .i64 pr, .int .i64 pc, .int .i64 lv] 42)).alloc (.cells #[.slice none 0 0, .int .i64 0, .int .i64 0, .int .i64 0] 42)) (e := 39) (base := w.heap.size + 1 + 1) (size := 2) #[] 0 (by simp) (by simp [maxLen]) (by simp)
    simpa using this
  simp only [World.size_alloc] at b2
  go_enter Tryz.func19, Tryz.ntmps19
  cases A with
  | none =>
    have h0 : l.length = 0 := by
      rcases Nat.eq_zero_or_pos l.length with h | h
      · exact h
      · obtain ⟨_, _, h, _⟩ := hR.2 h; cases h
    have hn : l = [] := List.eq_nil_of_length_eq_zero h0
    subst hn
    obtain rfl := hA rfl
    go_wp2_with (at_builtin; refine wpList_append_own_none rfl _ _ 36 rfl (w.heap.size + 1 + 1) 39 i0 2 Tryz.underlying36 hi _ _ _ rfl own rfl ?_)
    try go_wp2
    have own2 := World.ownsRow_made ((w.alloc (.cells #[.slice (some ⟨w.heap.size + 1 + 1, 0, none⟩) 0 0, .int .i64 pr, .int .i64 pc, .int .i64 lv] 42)).alloc (.cells #[.slice (some ⟨w.heap.size + 1 + 1, 0, none⟩) 0 0, .int .i64 pr, .int .i64 pc, .int .i64 lv] 42)) (e := 39) (base := w.heap.size + 1 + 1) (size := 2) #[] 0 (by simp) (by simp [maxLen]) (by simp)
    simp only [World.size_alloc] at own2
    refine bodyPost_ret (v := .agg #[.slice (some ⟨w.heap.size + 1 + 1, 0, none⟩) 0 0, .int .i64 pr, .int .i64 pc, .int .i64 lv]) (by simp [results, Tryz.results19, go_sem]) rfl ⟨_, rfl, own2, ?_⟩
    exact (((Below.refl _ _).alloc (Nat.le_refl _) _).alloc (by simp) _).alloc (by simp; omega) _
  | some a =>
    have hone := Lib.hid (cellsC_oneQ l)
    obtain ⟨x0, x1, x2, x3, f3⟩ := blk4 b1
    obtain ⟨y0, y1, y2, y3, f4⟩ := blk4 b2
    have hR' := hR.below hBB hB
    go_wp2_with (at_builtin; refine wpList_append_own _ rfl _ _ 36 rfl (w.heap.size + 1 + 1) 39 i0 (.agg #[.int .i64 0, .int .i64 0]) 2 16 Tryz.underlying36 hi iz0 iz1 iz2 rfl (by decide) _ _ _ rfl own a l.length c (cellsC l) rfl (cellsC_lenQ l) ?c1 ?c2 ?c3 ?c4 ?c5 ?_)
    case c1 => exact (row_cells hR')
    case c2 => exact hone.out
    case c3 => unfold maxLen; omega
    case c4 => omega
    case c5 => simp
    intro v3 w3 own3 hgrow _
    have hB3 : Below w.heap.size w w3 := below_own hBB (by omega) own hgrow
    have c1' := b1.grown hgrow (by intro e; have := Option.some.inj (show some _ = some (w.heap.size + 1 + 1) from e); omega)
    have c2' := b2.grown hgrow (by intro e; have := Option.some.inj (show some _ = some (w.heap.size + 1 + 1) from e); omega)
    obtain ⟨A3, c3, rfl, _, _, _⟩ := own_row2 own3
    clear hgrow own b1 b2 x0 x1 x2 x3 f3 y0 y1 y2 y3 f4 hBB
    obtain ⟨x0, x1, x2, x3, f3⟩ := blk4 c1'
    obtain ⟨y0, y1, y2, y3, f4⟩ := blk4 c2'
    have lx := c1'.lt
    have ly := c2'.lt
    have nxy : w.heap.size + 1 ≠ w.heap.size := by omega
    go_wp2
    have b9 := (c2'.far (p := ⟨w.heap.size, 0, none⟩) (by simp) (.slice A3 l.length c3)).set4 (.slice A3 l.length c3) (.int .i64 pr) (.int .i64 pc) (.int .i64 lv)
    obtain ⟨u0, u1, u2, u3, _⟩ := blk4 b9
    exact bodyPost_ret (v := .agg #[(.slice A3 l.length c3), .int .i64 pr, .int .i64 pc, .int .i64 lv]) (by simp [results, Tryz.results19, go_sem, u0, u1, u2, u3]) rfl ⟨(.slice A3 l.length c3), rfl, own_set5 (by simpa using own3) (by omega) (by omega) _ _ _ _ _, Below.set4 (hB3.setCell (by simp) _) (by omega)⟩
end Go.Proofs.YtclpljbllnhhbaaGreat
