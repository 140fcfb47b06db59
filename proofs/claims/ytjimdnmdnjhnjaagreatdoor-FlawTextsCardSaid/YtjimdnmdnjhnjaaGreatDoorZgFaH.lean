/- Contract: the length of a drop. -/
import Derived.Test.YtjimdnmdnjhnjaaGreatDoorZgFaG
namespace Go.Proofs.YtjimdnmdnjhnjaaGreatDoor
open Go.RowKit

/-- How many of the places in a row are not below a share of a level; nothing, if one that is not known comes first. -/
def runV (g : Nat → Int) (own num den : Int) : Nat → Nat → Option Nat
  | 0, _ => none
  | f + 1, j => if g j < 0 then none else if g j * den < own * num then some j else runV g own num den f (j + 1)
def prV (p0 p2 d : Int) (j : Nat) : Int := if p2 = 0 then p0 + d * j else p0
def pcV (p1 p2 d : Int) (j : Nat) : Int := if p2 = 0 then p1 else p1 + d * j
def seqV (l : List Sc) (p0 p1 p2 d : Int) (j : Nat) : Int := atV l (prV p0 p2 d (j + 1)) (pcV p1 p2 d (j + 1))
/-- What both sides give together. -/
def bothV (l : List Sc) (p0 p1 p2 num den : Int) : RE :=
  match runV (seqV l p0 p1 p2 (-1)) (atV l p0 p1) num den 300000 0 with
    | none => ⟨0, 0, 14⟩
    | some a => match runV (seqV l p0 p1 p2 1) (atV l p0 p1) num den 300000 0 with
      | none => ⟨0, 0, 14⟩
      | some b => ⟨(a : Int) + b, (a : Int) + b + 2, 0⟩
def dropV (l : List Sc) (p0 p1 p2 num den : Int) : RE :=
  if (scansE l).2 ≠ 0 then ⟨0, 0, (scansE l).2⟩ else if wi p2 0 1 = false then ⟨0, 0, 15⟩ else if lowB num den = false then ⟨0, 0, 3⟩ else if num < 1 ∨ den < num ∨ 1000 < den then ⟨0, 0, 2⟩
  else if atV l p0 p1 < 0 then ⟨0, 0, 6⟩ else if atV l p0 p1 = 0 then ⟨0, 0, 11⟩ else bothV l p0 p1 p2 num den
/-- Behind k sides. -/
def dropSt (l : List Sc) (p0 p1 p2 num den : Int) (k L : Nat) : Prop :=
  (k = 0 ∧ L = 0) ∨ (k = 1 ∧ runV (seqV l p0 p1 p2 (-1)) (atV l p0 p1) num den 300000 0 = some L) ∨ (k = 2 ∧ bothV l p0 p1 p2 num den = ⟨(L : Int), (L : Int) + 2, 0⟩)
theorem dropSt_step {l : List Sc} {p0 p1 p2 num den : Int} {k L : Nat} (h : dropSt l p0 p1 p2 num den k L) (hk : k < 2) : ∃ d : Int, (k = 0 ∧ d = -1 ∨ k = 1 ∧ d = 1) ∧
    (∀ j, runV (seqV l p0 p1 p2 d) (atV l p0 p1) num den 300000 0 = some j → dropSt l p0 p1 p2 num den (k + 1) (L + j)) ∧ (runV (seqV l p0 p1 p2 d) (atV l p0 p1) num den 300000 0 = none → bothV l p0 p1 p2 num den = ⟨0, 0, 14⟩) := by
  rcases h with ⟨rfl, rfl⟩ | ⟨rfl, h⟩ | ⟨rfl, h⟩
  · refine ⟨-1, .inl ⟨rfl, rfl⟩, fun j hj => .inr (.inl ⟨rfl, by simpa using hj⟩), fun hj => ?_⟩
    unfold bothV; rw [hj]
  · refine ⟨1, .inr ⟨rfl, rfl⟩, fun j hj => .inr (.inr ⟨rfl, ?_⟩), fun hj => ?_⟩
    · unfold bothV; rw [h]; dsimp only; rw [hj]; simp
    · unfold bothV; rw [h]; dsimp only; rw [hj]
  · omega
theorem dropSt_two {l : List Sc} {p0 p1 p2 num den : Int} {L : Nat} (h : dropSt l p0 p1 p2 num den 2 L) : bothV l p0 p1 p2 num den = ⟨(L : Int), (L : Int) + 2, 0⟩ := by
  rcases h with ⟨h, _⟩ | ⟨h, _⟩ | ⟨_, h⟩
  · omega
  · omega
  · exact h
theorem runV_step (g : Nat → Int) (own num den : Int) (j : Nat) (h : j < 300000) : runV g own num den (300000 - j) j = if g j < 0 then none else if g j * den < own * num then some j else runV g own num den (300000 - (j + 1)) (j + 1) := by
  obtain ⟨f, hf⟩ : ∃ f, 300000 - j = f + 1 := ⟨300000 - j - 1, by omega⟩
  rw [hf, show 300000 - (j + 1) = f by omega]
  rfl
theorem index_step (k : Nat) (d : Int) (h : k = 0 ∧ d = -1 ∨ k = 1 ∧ d = 1) (W : World) : (Instr.index 62 (.agg #[.int .i64 (-1), .int .i64 1]) (.int .i64 (k : Int))).run Tryz.prog W = .ok (.int .i64 d) W := by
  rcases h with ⟨rfl, rfl⟩ | ⟨rfl, rfl⟩ <;> kernel_rfl

theorem atV_known {l : List Sc} {r c : Int} (h : ∀ s ∈ l, ScGood s) (h0 : 0 ≤ atV l r c) : -100000 ≤ r ∧ r ≤ 100023 ∧ -100000 ≤ c ∧ c ≤ 100023 := by
  have key : ∀ (l : List Sc) (b : Int), (∀ s ∈ l, ScGood s) → b < 0 → 0 ≤ l.foldl (fun b s => atS b s r c) b → ∃ s ∈ l, inB s r c = true := by
    intro l
    induction l with
    | nil => intro b _ hb h; simp at h; omega
    | cons s l ih =>
      intro b hg hb h
      by_cases hi : inB s r c = true
      · exact ⟨s, by simp, hi⟩
      · have e : atS b s r c = b := by unfold atS; rw [if_neg hi]
        rw [List.foldl_cons, e] at h
        obtain ⟨x, hx, hxi⟩ := ih b (fun y hy => hg y (by simp [hy])) hb h
        exact ⟨x, by simp [hx], hxi⟩
  obtain ⟨s, hs, hi⟩ := key l (-1) h (by omega) h0
  have G := h s hs
  have a1 := G.row; have a2 := G.col; have a3 := G.rows; have a4 := G.cols
  simp [inB, wi] at hi
  omega

set_option maxHeartbeats 400000 in
theorem isLowest_any (n d : Int) (hn : -9223372036854775808 ≤ n ∧ n ≤ 9223372036854775807) (hd : -9223372036854775808 ≤ d ∧ d ≤ 9223372036854775807) (w : World) :
    Calls Tryz.prog 55 #[.agg #[.int .i64 n, .int .i64 d]] w fun e w' => e = .returned (.bool (lowB n d)) ∧ Below w.heap.size w w' := by
  go_enter Tryz.func55, Tryz.ntmps55
  go_wp2_with (go_at_call 85; refine (divisor_any _ _ (by omega) (by omega) (by omega) _).mono ?_; rintro e w1 ⟨rfl, hB1⟩; obtain ⟨hc1, hf1⟩ := bcell hB1; have hz1 := hB1.size; (try simp at hz1))
  all_goals
    go_ret
    refine ⟨?_, (by repeat (first | (with_reducible exact Below.refl _ _) | (with_reducible assumption) | ((with_reducible refine Below.setCell ?_ ?_ _); rotate_left; · (first | exact Nat.le_refl _ | (simp; done) | (simp; omega) | omega)) | ((with_reducible refine Below.alloc ?_ ?_ _); rotate_left; · (first | exact Nat.le_refl _ | (simp; done) | (simp; omega) | omega)) | (with_reducible apply Below.drew) | (with_reducible apply below_drewN') | (refine Below.trans ?_ (Below.mono (by assumption) (by first | exact Nat.le_refl _ | (simp; done) | (simp; omega) | omega))) | exact Below.refl _ _ | assumption))⟩
    show Ending.returned (Value.bool _) = _
    congr 2
    grind [lowB]

theorem FMap.base {w : World} {b n : Nat} {g : Int → Int → Int} (h : FMap w b n g) : b < w.heap.size := h.lt
theorem BMap.base {w : World} {b n : Nat} {g : Int → Int → Bool} (h : BMap w b n g) : b < w.heap.size := h.lt
theorem blk3c {w : World} {g t : Nat} {v0 v1 v2 : Value} (h : Blk w g t #[v0, v1, v2]) : w.cell? ⟨g, 0, none⟩ = some v0 ∧ w.cell? ⟨g, 1, none⟩ = some v1 ∧ w.cell? ⟨g, 2, none⟩ = some v2 ∧ ∀ i, w.frozen? ⟨g, i, none⟩ = false :=
  ⟨h.cell 0, h.cell 1, h.cell 2, h.frozen⟩
/-- The two cells of a result, behind a store. -/
theorem ret2 {w : World} {g t : Nat} {v0 v1 : Value} (h : Blk w g t #[v0, v1]) (u0 u1 : Value) :
    ((w.setCell ⟨g, 0, none⟩ u0).setCell ⟨g, 1, none⟩ u1).cell? ⟨g, 0, none⟩ = some u0 ∧ ((w.setCell ⟨g, 0, none⟩ u0).setCell ⟨g, 1, none⟩ u1).cell? ⟨g, 1, none⟩ = some u1 :=
  ⟨(h.set2 u0 u1).cell 0, (h.set2 u0 u1).cell 1⟩

set_option maxRecDepth 100000 in
set_option maxHeartbeats 2000000 in
theorem drop_any (l : List Sc) (A : Option Addr) (cap B : Nat) (p0 p1 p2 num den : Int) (w : World) (hl : ScOk l A B w) (hB : B ≤ w.heap.size) (h0 : W64 p0) (h1 : W64 p1) (hn : W64 num) (hd : W64 den) :
    Calls Tryz.prog 16 #[.slice A l.length cap, .agg #[.int .i64 p0, .int .i64 p1, .int .i64 p2], .agg #[.int .i64 num, .int .i64 den]] w fun e w' => e = .returned (reC (dropV l p0 p1 p2 num den)) ∧ Below w.heap.size w w' := by
  have HN := Lib.hid hn; have HD := Lib.hid hd
  clear hn hd
  unfold reC
  go_enter Tryz.func16, Tryz.ntmps16
  go_wp2_with fail
  have b4 := ((Blk.new w 60 #[.int .i64 p0, .int .i64 p1, .int .i64 p2]).alloc (.cells #[.int .i64 num, .int .i64 den] 52)).alloc (.cells #[.int .i64 0, .int .i64 0] 23)
  have b5 := (Blk.new (w.alloc (.cells #[.int .i64 p0, .int .i64 p1, .int .i64 p2] 60)) 52 #[.int .i64 num, .int .i64 den]).alloc (.cells #[.int .i64 0, .int .i64 0] 23)
  have b6 := Blk.new ((w.alloc (.cells #[.int .i64 p0, .int .i64 p1, .int .i64 p2] 60)).alloc (.cells #[.int .i64 num, .int .i64 den] 52)) 23 #[.int .i64 0, .int .i64 0]
  have hBB : Below w.heap.size w (((w.alloc (.cells #[.int .i64 p0, .int .i64 p1, .int .i64 p2] 60)).alloc (.cells #[.int .i64 num, .int .i64 den] 52)).alloc (.cells #[.int .i64 0, .int .i64 0] 23)) := (by repeat (first | (with_reducible exact Below.refl _ _) | (with_reducible assumption) | ((with_reducible refine Below.setCell ?_ ?_ _); rotate_left; · (first | exact Nat.le_refl _ | (simp; done) | (simp; omega) | omega)) | ((with_reducible refine Below.alloc ?_ ?_ _); rotate_left; · (first | exact Nat.le_refl _ | (simp; done) | (simp; omega) | omega)) | (with_reducible apply Below.drew) | (with_reducible apply below_drewN') | (refine Below.trans ?_ (Below.mono (by assumption) (by first | exact Nat.le_refl _ | (simp; done) | (simp; omega) | omega))) | exact Below.refl _ _ | assumption))
  simp only [World.size_alloc] at b5 b6
  obtain ⟨W, hW⟩ : ∃ W, ((w.alloc (.cells #[.int .i64 p0, .int .i64 p1, .int .i64 p2] 60)).alloc (.cells #[.int .i64 num, .int .i64 den] 52)).alloc (.cells #[.int .i64 0, .int .i64 0] 23) = W := ⟨_, rfl⟩
  rw [hW] at b4 b5 b6 hBB ⊢
  clear hW
  have hl2 := hl.below hBB hB
  obtain ⟨S5, hS5⟩ : ∃ n, w.heap.size + 1 = n := ⟨_, rfl⟩
  obtain ⟨S6, hS6⟩ : ∃ n, w.heap.size + 1 + 1 = n := ⟨_, rfl⟩
  rw [hS5] at b5
  rw [hS6] at b6
  rw [hS6, hS5]
  have n46 : w.heap.size ≠ S6 := by omega
  have n56 : S5 ≠ S6 := by omega
  have g6 : w.heap.size ≤ S6 := by omega
  have hzW := Below.size hBB
  have l_b4 := b4.lt
  obtain ⟨x0, x1, x2, _⟩ := blk3c b4
  have l_b5 := b5.lt
  obtain ⟨y0, y1, _⟩ := blk2c b5
  have l_b6 := b6.lt
  obtain ⟨z0, z1, z2⟩ := blk2c b6
  by_cases he : (scansE l).2 ≠ 0
  · have HV : Hid (dropV l p0 p1 p2 num den = ⟨0, 0, (scansE l).2⟩) := Lib.hid (by unfold dropV; rw [if_pos he])
    have HB := Lib.hid he
    obtain ⟨E, hE⟩ : ∃ E, (scansE l).2 = E := ⟨_, rfl⟩
    have he' : (E != 0) = true := by rw [hE] at he; simpa using he
    have HE := Lib.hid hE; clear hE he
    go_wp2_with fail
    refine (open_bad l A cap B _ hl2 (by omega) HB.out).mono ?_
    rw [HE.out]
    rintro e wc1 ⟨rfl, hBc1⟩
    replace b4 := b4.gr hBc1
    replace b5 := b5.gr hBc1
    replace b6 := b6.gr hBc1
    replace hBB := hBB.trans (Below.mono hBc1 (Below.size hBB))
    clear hBc1
    clear l_b4 x0 x1 x2 l_b5 y0 y1 l_b6 z0 z1 z2
    have l_b4 := b4.lt
    have l_b5 := b5.lt
    have l_b6 := b6.lt
    obtain ⟨x0, x1, x2, _⟩ := blk3c b4
    obtain ⟨y0, y1, _⟩ := blk2c b5
    obtain ⟨z0, z1, z2⟩ := blk2c b6
    go_wp2
    obtain ⟨u0, u1⟩ := ret2 b6 (.int .i64 0) (.int .i64 0)
    rw [HV.out, HE.out]
    exact bodyPost_ret (v := .tuple #[.agg #[.int .i64 0, .int .i64 0], .int .i64 E]) (by simp [results, Tryz.results16, go_sem, u0, u1]) rfl ⟨rfl, (hBB.setCell g6 _).setCell g6 _⟩
  replace he : (scansE l).2 = 0 := by simpa using he
  have HB := Lib.hid he
  have HG := Lib.hid (scansE_zero he).2
  have HV0 : Hid (dropV l p0 p1 p2 num den = if wi p2 0 1 = false then ⟨0, 0, 15⟩ else if lowB num den = false then ⟨0, 0, 3⟩ else if num < 1 ∨ den < num ∨ 1000 < den then ⟨0, 0, 2⟩
    else if atV l p0 p1 < 0 then ⟨0, 0, 6⟩ else if atV l p0 p1 = 0 then ⟨0, 0, 11⟩ else
    bothV l p0 p1 p2 num den) := Lib.hid (by unfold dropV; rw [if_neg (by rw [he]; decide)])
  clear he
  go_wp2_with fail
  refine (open_ok l A cap B _ hl2 (by omega) HB.out).mono ?_
  rintro e wc2 ⟨b, n, rfl, hbS, hn5, hM, hBc2⟩
  replace b4 := b4.gr hBc2
  replace b5 := b5.gr hBc2
  replace b6 := b6.gr hBc2
  replace hBB := hBB.trans (Below.mono hBc2 (Below.size hBB))
  clear hBc2
  clear l_b4 x0 x1 x2 l_b5 y0 y1 l_b6 z0 z1 z2
  have l_b4 := b4.lt
  have l_b5 := b5.lt
  have l_b6 := b6.lt
  obtain ⟨x0, x1, x2, _⟩ := blk3c b4
  obtain ⟨y0, y1, _⟩ := blk2c b5
  obtain ⟨z0, z1, z2⟩ := blk2c b6
  cases q2 : wi p2 0 1
  · have HV : Hid (dropV l p0 p1 p2 num den = ⟨0, 0, 15⟩) := Lib.hid (by rw [HV0.out, if_pos q2])
    go_wp2_with (go_at_call 38; refine (within_any _ _ _ _).mono ?_; rintro e w1 ⟨rfl, rfl⟩)
    obtain ⟨u0, u1⟩ := ret2 b6 (.int .i64 0) (.int .i64 0)
    rw [HV.out]
    exact bodyPost_ret (v := .tuple #[.agg #[.int .i64 0, .int .i64 0], .int .i64 15]) (by simp [results, Tryz.results16, go_sem, u0, u1]) rfl ⟨rfl, (hBB.setCell g6 _).setCell g6 _⟩
  go_wp2_with fail
  refine (within_any _ _ _ _).mono ?_
  rintro e wq ⟨rfl, rfl⟩
  have hp2 : p2 = 0 ∨ p2 = 1 := by simp [wi] at q2; omega
  cases q3 : lowB num den
  · have HV : Hid (dropV l p0 p1 p2 num den = ⟨0, 0, 3⟩) := Lib.hid (by rw [HV0.out, if_neg (by rw [q2]; decide), if_pos q3])
    have Q3 := Lib.hid q3; clear q3
    go_wp2_with fail
    refine (isLowest_any _ _ HN.out HD.out _).mono ?_
    rw [Q3.out]
    rintro e wc3 ⟨rfl, hBc3⟩
    replace b4 := b4.gr hBc3
    replace b5 := b5.gr hBc3
    replace b6 := b6.gr hBc3
    replace hM := hM.below hBc3 hM.base
    replace hBB := hBB.trans (Below.mono hBc3 (Below.size hBB))
    clear hBc3
    clear l_b4 x0 x1 x2 l_b5 y0 y1 l_b6 z0 z1 z2
    have l_b4 := b4.lt
    have l_b5 := b5.lt
    have l_b6 := b6.lt
    obtain ⟨x0, x1, x2, _⟩ := blk3c b4
    obtain ⟨y0, y1, _⟩ := blk2c b5
    obtain ⟨z0, z1, z2⟩ := blk2c b6
    go_wp2
    obtain ⟨u0, u1⟩ := ret2 b6 (.int .i64 0) (.int .i64 0)
    rw [HV.out]
    exact bodyPost_ret (v := .tuple #[.agg #[.int .i64 0, .int .i64 0], .int .i64 3]) (by simp [results, Tryz.results16, go_sem, u0, u1]) rfl ⟨rfl, (hBB.setCell g6 _).setCell g6 _⟩
  have Q3 := Lib.hid q3; clear q3
  go_wp2_with fail
  refine (isLowest_any _ _ HN.out HD.out _).mono ?_
  rw [Q3.out]
  rintro e wc4 ⟨rfl, hBc4⟩
  replace b4 := b4.gr hBc4
  replace b5 := b5.gr hBc4
  replace b6 := b6.gr hBc4
  replace hM := hM.below hBc4 hM.base
  replace hBB := hBB.trans (Below.mono hBc4 (Below.size hBB))
  clear hBc4
  clear l_b4 x0 x1 x2 l_b5 y0 y1 l_b6 z0 z1 z2
  have l_b4 := b4.lt
  have l_b5 := b5.lt
  have l_b6 := b6.lt
  obtain ⟨x0, x1, x2, _⟩ := blk3c b4
  obtain ⟨y0, y1, _⟩ := blk2c b5
  obtain ⟨z0, z1, z2⟩ := blk2c b6
  by_cases q4 : num < 1 ∨ den < num ∨ 1000 < den
  · have HV : Hid (dropV l p0 p1 p2 num den = ⟨0, 0, 2⟩) := Lib.hid (by rw [HV0.out, if_neg (by rw [q2]; decide), if_neg (by rw [Q3.out]; decide), if_pos q4])
    have q5 : num < 1 ∨ (1 ≤ num ∧ den < num) ∨ (1 ≤ num ∧ num ≤ den ∧ 1000 < den) := by omega
    clear q4
    rcases q5 with q5 | ⟨q5, q6⟩ | ⟨q5, q6, q7⟩
    all_goals
      go_wp2
      obtain ⟨u0, u1⟩ := ret2 b6 (.int .i64 0) (.int .i64 0)
      rw [HV.out]
      exact bodyPost_ret (v := .tuple #[.agg #[.int .i64 0, .int .i64 0], .int .i64 2]) (by simp [results, Tryz.results16, go_sem, u0, u1]) rfl ⟨rfl, (hBB.setCell g6 _).setCell g6 _⟩
  have r1 : 1 ≤ num := by omega
  have r2 : num ≤ den := by omega
  have r3 : den ≤ 1000 := by omega
  have HV1 : Hid (dropV l p0 p1 p2 num den = if atV l p0 p1 < 0 then ⟨0, 0, 6⟩ else if atV l p0 p1 = 0 then ⟨0, 0, 11⟩ else
    bothV l p0 p1 p2 num den) := Lib.hid (by rw [HV0.out, if_neg (by rw [q2]; decide), if_neg (by rw [Q3.out]; decide), if_neg q4])
  clear q4 HV0
  have bc := Blk.new wc4 62 #[.int .i64 p0, .int .i64 p1]
  have hMa := hM.alloc (.cells #[.int .i64 p0, .int .i64 p1] 62)
  by_cases k0 : atV l p0 p1 < 0
  · have HV : Hid (dropV l p0 p1 p2 num den = ⟨0, 0, 6⟩) := Lib.hid (by rw [HV1.out, if_pos k0])
    have hlk : (Instr.lookup 90 (.map (some b)) (cellV p0 p1) true).run Tryz.prog (wc4.alloc (.cells #[.int .i64 p0, .int .i64 p1] 62)) = .ok (.tuple #[.int .i64 0, .bool false]) (wc4.alloc (.cells #[.int .i64 p0, .int .i64 p1] 62)) := by
      rw [hMa.look_ok Tryz.underlying90 h0 h1, show decide (0 ≤ atV l p0 p1) = false by simp; omega]; unfold pos; rw [if_neg (by omega)]
    have b3 := (b6.set2 (.int .i64 0) (.int .i64 0)).alloc (.cells #[.int .i64 p0, .int .i64 p1] 62)
    clear k0
    go_wp2
    obtain ⟨u0, u1, _⟩ := blk2c b3
    rw [HV.out]
    exact bodyPost_ret (v := .tuple #[.agg #[.int .i64 0, .int .i64 0], .int .i64 6]) (by simp [results, Tryz.results16, go_sem, u0, u1]) rfl ⟨rfl, ((hBB.setCell g6 _).setCell g6 _).alloc (by simp; exact Below.size hBB) _⟩
  have hlk : (Instr.lookup 90 (.map (some b)) (cellV p0 p1) true).run Tryz.prog (wc4.alloc (.cells #[.int .i64 p0, .int .i64 p1] 62)) = .ok (.tuple #[.int .i64 (atV l p0 p1), .bool true]) (wc4.alloc (.cells #[.int .i64 p0, .int .i64 p1] 62)) := by
    rw [hMa.look_ok Tryz.underlying90 h0 h1, show decide (0 ≤ atV l p0 p1) = true by simp; omega]; unfold pos; rw [if_pos (by omega)]
  have hkn := atV_known HG.out (show 0 ≤ atV l p0 p1 by omega)
  have hbd := atV_bd HG.out p0 p1
  obtain ⟨own, hown⟩ : ∃ own, atV l p0 p1 = own := ⟨_, rfl⟩
  rw [hown] at hlk k0 hbd
  by_cases k1 : own = 0
  · have HV : Hid (dropV l p0 p1 p2 num den = ⟨0, 0, 11⟩) := Lib.hid (by rw [HV1.out, hown, if_neg k0, if_pos k1])
    have b3 := (b6.set2 (.int .i64 0) (.int .i64 0)).alloc (.cells #[.int .i64 p0, .int .i64 p1] 62)
    clear hown
    subst k1
    go_wp2
    obtain ⟨u0, u1, _⟩ := blk2c b3
    rw [HV.out]
    exact bodyPost_ret (v := .tuple #[.agg #[.int .i64 0, .int .i64 0], .int .i64 11]) (by simp [results, Tryz.results16, go_sem, u0, u1]) rfl ⟨rfl, ((hBB.setCell g6 _).setCell g6 _).alloc (by simp; exact Below.size hBB) _⟩
  have HV : Hid (dropV l p0 p1 p2 num den = bothV l p0 p1 p2 num den) := Lib.hid (by rw [HV1.out, hown, if_neg k0, if_neg k1])
  have k2 : 0 < own := by omega
  have k3 : own ≠ 0 := by omega
  have HOWN := Lib.hid hown
  clear hown k0 k1 HV1
  have b4a := b4.alloc (.cells #[.int .i64 p0, .int .i64 p1] 62)
  have b5a := b5.alloc (.cells #[.int .i64 p0, .int .i64 p1] 62)
  have b6a := b6.alloc (.cells #[.int .i64 p0, .int .i64 p1] 62)
  have hBa := hBB.alloc (Below.size hBB) (.cells #[.int .i64 p0, .int .i64 p1] 62)
  go_wp2_with fail
  have lc := bc.lt
  have l4 := b4a.lt; have l5 := b5a.lt; have l6 := b6a.lt; have lM := hMa.lt
  have zc := Below.size hBa
  generalize wc4.alloc (.cells #[.int .i64 p0, .int .i64 p1] 62) = Wx at *
  generalize wc4.heap.size = C at *
  clear hM hBB b4 b5 b6 l_b4 l_b5 l_b6
  go_loopw [13, 77] (fun s13 s77 wr => ∃ k L : Nat, s77 = .int .i64 k ∧ s13 = .int .i64 L ∧ k ≤ 2 ∧ L ≤ k * 200300 ∧ Hid (dropSt l p0 p1 p2 num den k L) ∧ Below w.heap.size w wr ∧ Below Wx.heap.size Wx wr) (fun _ s77 _ => 2 - (intOf s77).toNat)
  case atStart => exact ⟨0, 0, rfl, rfl, by omega, by omega, Lib.hid (.inl ⟨rfl, rfl⟩), hBa, Below.refl _ _⟩
  case round =>
    obtain ⟨k, L, rfl, rfl, hk, hL, HS, hBw, hBx⟩ := hrel
    obtain ⟨wo, rfl⟩ : ∃ wo, wo = wr := ⟨wr, rfl⟩
    have c4 := b4a.below hBx l4
    have c5 := b5a.below hBx l5
    have c6 := b6a.below hBx l6
    have cc := bc.below hBx lc
    have hMo := hMa.below hBx lM
    have zo := hBx.size
    obtain ⟨x0, x1, x2, _⟩ := blk3c c4
    obtain ⟨y0, y1, _⟩ := blk2c c5
    obtain ⟨z0, z1, z2⟩ := blk2c c6
    obtain ⟨v0, v1, _⟩ := blk2c cc
    by_cases hlt : k < 2
    · obtain ⟨d, hd, H1, H2⟩ := dropSt_step HS.out hlt
      have hix := index_step k d hd
      have HN1 := Lib.hid H1; have HN2 := Lib.hid H2
      have hd' : -1 ≤ d ∧ d ≤ 1 ∧ d ≠ 0 := by omega
      clear H1 H2 hd
      go_wp2_with fail
      -- inner loops
      rcases hp2 with rfl | rfl
      · have HXS : Hid (∀ (j : Nat) (x y : Int), x = prV p0 0 d j → y = pcV p1 0 d j → prV p0 0 d (j + 1) = x + d ∧ pcV p1 0 d (j + 1) = y) := Lib.hid (fun j x y h1 h2 => by
          unfold prV at *; unfold pcV at *; simp at h1 h2 ⊢; rw [h1, h2]; rw [Int.mul_add]; omega)
        have HJB : Hid (∀ (j : Nat) (x y : Int), x = prV p0 0 d j → y = pcV p1 0 d j → -100000 ≤ x → x ≤ 100023 → -100000 ≤ y → y ≤ 100023 → j ≤ 200023) := Lib.hid (fun j x y h1 h2 a1 a2 a3 a4 => by
          unfold prV at h1; unfold pcV at h2; simp at h1 h2
          rcases (show d = -1 ∨ d = 1 by omega) with rfl | rfl <;> omega)
        go_loopw [13, 16] (fun s13 s16 wr => ∃ (j p : Nat) (x y : Int), s13 = .int .i64 ((L + j : Nat) : Int) ∧ s16 = .pointer (some ⟨p, 0, none⟩) ∧ Blk wr p 62 #[.int .i64 x, .int .i64 y] ∧ wo.heap.size ≤ p ∧
          Hid (x = prV p0 0 d j ∧ y = pcV p1 0 d j ∧ runV (seqV l p0 p1 0 d) (atV l p0 p1) num den 300000 0 = runV (seqV l p0 p1 0 d) (atV l p0 p1) num den (300000 - j) j) ∧ (-100000 ≤ x ∧ x ≤ 100023) ∧ (-100000 ≤ y ∧ y ≤ 100023) ∧ Below w.heap.size w wr ∧ Below wo.heap.size wo wr) (fun s13 _ _ => 1000000 - (intOf s13).toNat)
        case atStart => exact ⟨0, wo.heap.size, p0, p1, by simp, rfl, Blk.new _ _ _, Nat.le_refl _, Lib.hid (by unfold prV pcV; simp), by omega, by omega, hBw.alloc (Below.size hBw) _, (Below.refl _ wo).alloc (Nat.le_refl _) _⟩
        case round =>
          obtain ⟨j, p, x, y, rfl, rfl, hb, hp, HX, hx, hy, hB2, hB3⟩ := hrel
          have hjb := HJB.out j x y HX.out.1 HX.out.2.1 hx.1 hx.2 hy.1 hy.2
          have e4 := c4.below hB3 c4.lt
          have e5 := c5.below hB3 c5.lt
          have e6 := c6.below hB3 c6.lt
          have eM := hMo.below hB3 hMo.lt
          obtain ⟨x0, x1, x2, _⟩ := blk3c e4
          obtain ⟨y0, y1, _⟩ := blk2c e5
          obtain ⟨z0, z1, z2⟩ := blk2c e6
          obtain ⟨t0, t1, t2⟩ := blk2c hb
          have lp := hb.lt
          have k4 := c4.lt; have k5 := c5.lt; have k6 := c6.lt; have kM := hMo.lt
          have k4' := e4.lt; have k5' := e5.lt; have k6' := e6.lt
          have ne4 : w.heap.size ≠ p := by omega
          have ne5 : S5 ≠ p := by omega
          have ne6 : S6 ≠ p := by omega
          have eM1 := eM.setCell (a := ⟨p, 0, none⟩) (show b ≠ p by omega) (.int .i64 (x + d))
          have hb1 := hb.set_ 0 (.int .i64 (x + d))
          have e4a := e4.far (p := ⟨p, 0, none⟩) ne4 (.int .i64 (x + d))
          have e5a := e5.far (p := ⟨p, 0, none⟩) ne5 (.int .i64 (x + d))
          have e6a := e6.far (p := ⟨p, 0, none⟩) ne6 (.int .i64 (x + d))
          have hBs := hB2.setCell (p := ⟨p, 0, none⟩) (by have := Below.size hBw; simp; omega) (.int .i64 (x + d))
          have hBt := hB3.setCell (p := ⟨p, 0, none⟩) hp (.int .i64 (x + d))
          have HNX := Lib.hid (HXS.out j x y HX.out.1 HX.out.2.1)
          have HSQ : Hid (seqV l p0 p1 0 d j = atV l (x + d) (y)) := Lib.hid (by unfold seqV; rw [HNX.out.1, HNX.out.2])
          have HRS : Hid (runV (seqV l p0 p1 0 d) (atV l p0 p1) num den 300000 0 = if atV l (x + d) (y) < 0 then none else if atV l (x + d) (y) * den < own * num then some j else runV (seqV l p0 p1 0 d) (atV l p0 p1) num den (300000 - (j + 1)) (j + 1)) := Lib.hid (by
            rw [HX.out.2.2, runV_step _ _ _ _ j (by omega), HSQ.out, HOWN.out])
          by_cases hun : atV l (x + d) (y) < 0
          · have hlk : (Instr.lookup 90 (.map (some b)) (cellV (x + d) (y)) true).run Tryz.prog (wr.setCell ⟨p, 0, none⟩ (.int .i64 (x + d))) = .ok (.tuple #[.int .i64 0, .bool false]) (wr.setCell ⟨p, 0, none⟩ (.int .i64 (x + d))) := by
              rw [eM1.look_ok Tryz.underlying90 (by unfold W64; omega) (by unfold W64; omega), show decide (0 ≤ atV l (x + d) (y)) = false by simp; omega]; unfold pos; rw [if_neg (by omega)]
            have HV3 : Hid (dropV l p0 p1 0 num den = ⟨0, 0, 14⟩) := Lib.hid (by rw [HV.out, HN2.out (by rw [HRS.out, if_pos hun])])
            clear hun
            go_wp2
            obtain ⟨u0, u1⟩ := ret2 e6a (.int .i64 0) (.int .i64 0)
            rw [HV3.out]
            exact bodyPost_ret (v := .tuple #[.agg #[.int .i64 0, .int .i64 0], .int .i64 14]) (by simp [results, Tryz.results16, go_sem, u0, u1]) rfl ⟨rfl, (hBs.setCell g6 _).setCell g6 _⟩
          · have hlk : (Instr.lookup 90 (.map (some b)) (cellV (x + d) (y)) true).run Tryz.prog (wr.setCell ⟨p, 0, none⟩ (.int .i64 (x + d))) = .ok (.tuple #[.int .i64 (atV l (x + d) (y)), .bool true]) (wr.setCell ⟨p, 0, none⟩ (.int .i64 (x + d))) := by
              rw [eM1.look_ok Tryz.underlying90 (by unfold W64; omega) (by unfold W64; omega), show decide (0 ≤ atV l (x + d) (y)) = true by simp; omega]; unfold pos; rw [if_pos (by omega)]
            have hkn2 := atV_known HG.out (show 0 ≤ atV l (x + d) (y) by omega)
            have hbd2 := atV_bd HG.out (x + d) (y)
            have hnn : 0 ≤ atV l (x + d) (y) := by omega
            clear hun
            obtain ⟨v, hv⟩ : ∃ v, atV l (x + d) (y) = v := ⟨_, rfl⟩
            rw [hv] at hlk hbd2 hnn
            rw [hv] at HRS
            clear hv HSQ
            have m1 := mul_bd0 hnn hbd2.2 (show 0 ≤ den by omega) r3
            have m2 := mul_bd0 (show 0 ≤ own by omega) hbd.2 (show 0 ≤ num by omega) (show num ≤ 1000 by omega)
            by_cases hbr : v * den < own * num
            · have HST : Hid (dropSt l p0 p1 0 num den (k + 1) (L + j)) := Lib.hid (HN1.out j (by rw [HRS.out, if_neg (by omega), if_pos hbr]))
              go_wp2
              refine ⟨⟨k + 1, L + j, by go_num, rfl, by omega, by omega, HST, hBs, hBx.trans (Below.mono hBt zo)⟩, by simp [intOf]; omega⟩
            · have HRN : Hid (runV (seqV l p0 p1 0 d) (atV l p0 p1) num den 300000 0 = runV (seqV l p0 p1 0 d) (atV l p0 p1) num den (300000 - (j + 1)) (j + 1)) := Lib.hid (by rw [HRS.out, if_neg (by omega), if_neg hbr])
              clear HRS
              have hz2 := Below.size hBs
              have hz3 := hBt.size
              have hbn := Blk.new (wr.setCell ⟨p, 0, none⟩ (.int .i64 (x + d))) 62 #[.int .i64 (x + d), .int .i64 (y)]
              go_wp2
              refine ⟨⟨j + 1, wr.heap.size, x + d, y, by simp; omega, by simp, by simpa using hbn, by omega, Lib.hid ⟨HNX.out.1.symm, HNX.out.2.symm, HRN.out⟩, by omega, by omega, hBs.alloc hz2 _, hBt.alloc hz3 _⟩, by simp [intOf]; omega⟩
      · have HXS : Hid (∀ (j : Nat) (x y : Int), x = prV p0 1 d j → y = pcV p1 1 d j → prV p0 1 d (j + 1) = x ∧ pcV p1 1 d (j + 1) = y + d) := Lib.hid (fun j x y h1 h2 => by
          unfold prV at *; unfold pcV at *; simp at h1 h2 ⊢; rw [h1, h2]; rw [Int.mul_add]; omega)
        have HJB : Hid (∀ (j : Nat) (x y : Int), x = prV p0 1 d j → y = pcV p1 1 d j → -100000 ≤ x → x ≤ 100023 → -100000 ≤ y → y ≤ 100023 → j ≤ 200023) := Lib.hid (fun j x y h1 h2 a1 a2 a3 a4 => by
          unfold prV at h1; unfold pcV at h2; simp at h1 h2
          rcases (show d = -1 ∨ d = 1 by omega) with rfl | rfl <;> omega)
        go_loopw [13, 16] (fun s13 s16 wr => ∃ (j p : Nat) (x y : Int), s13 = .int .i64 ((L + j : Nat) : Int) ∧ s16 = .pointer (some ⟨p, 0, none⟩) ∧ Blk wr p 62 #[.int .i64 x, .int .i64 y] ∧ wo.heap.size ≤ p ∧
          Hid (x = prV p0 1 d j ∧ y = pcV p1 1 d j ∧ runV (seqV l p0 p1 1 d) (atV l p0 p1) num den 300000 0 = runV (seqV l p0 p1 1 d) (atV l p0 p1) num den (300000 - j) j) ∧ (-100000 ≤ x ∧ x ≤ 100023) ∧ (-100000 ≤ y ∧ y ≤ 100023) ∧ Below w.heap.size w wr ∧ Below wo.heap.size wo wr) (fun s13 _ _ => 1000000 - (intOf s13).toNat)
        case atStart => exact ⟨0, wo.heap.size, p0, p1, by simp, rfl, Blk.new _ _ _, Nat.le_refl _, Lib.hid (by unfold prV pcV; simp), by omega, by omega, hBw.alloc (Below.size hBw) _, (Below.refl _ wo).alloc (Nat.le_refl _) _⟩
        case round =>
          obtain ⟨j, p, x, y, rfl, rfl, hb, hp, HX, hx, hy, hB2, hB3⟩ := hrel
          have hjb := HJB.out j x y HX.out.1 HX.out.2.1 hx.1 hx.2 hy.1 hy.2
          have e4 := c4.below hB3 c4.lt
          have e5 := c5.below hB3 c5.lt
          have e6 := c6.below hB3 c6.lt
          have eM := hMo.below hB3 hMo.lt
          obtain ⟨x0, x1, x2, _⟩ := blk3c e4
          obtain ⟨y0, y1, _⟩ := blk2c e5
          obtain ⟨z0, z1, z2⟩ := blk2c e6
          obtain ⟨t0, t1, t2⟩ := blk2c hb
          have lp := hb.lt
          have k4 := c4.lt; have k5 := c5.lt; have k6 := c6.lt; have kM := hMo.lt
          have k4' := e4.lt; have k5' := e5.lt; have k6' := e6.lt
          have ne4 : w.heap.size ≠ p := by omega
          have ne5 : S5 ≠ p := by omega
          have ne6 : S6 ≠ p := by omega
          have eM1 := eM.setCell (a := ⟨p, 1, none⟩) (show b ≠ p by omega) (.int .i64 (y + d))
          have hb1 := hb.set_ 1 (.int .i64 (y + d))
          have e4a := e4.far (p := ⟨p, 1, none⟩) ne4 (.int .i64 (y + d))
          have e5a := e5.far (p := ⟨p, 1, none⟩) ne5 (.int .i64 (y + d))
          have e6a := e6.far (p := ⟨p, 1, none⟩) ne6 (.int .i64 (y + d))
          have hBs := hB2.setCell (p := ⟨p, 1, none⟩) (by have := Below.size hBw; simp; omega) (.int .i64 (y + d))
          have hBt := hB3.setCell (p := ⟨p, 1, none⟩) hp (.int .i64 (y + d))
          have HNX := Lib.hid (HXS.out j x y HX.out.1 HX.out.2.1)
          have HSQ : Hid (seqV l p0 p1 1 d j = atV l (x) (y + d)) := Lib.hid (by unfold seqV; rw [HNX.out.1, HNX.out.2])
          have HRS : Hid (runV (seqV l p0 p1 1 d) (atV l p0 p1) num den 300000 0 = if atV l (x) (y + d) < 0 then none else if atV l (x) (y + d) * den < own * num then some j else runV (seqV l p0 p1 1 d) (atV l p0 p1) num den (300000 - (j + 1)) (j + 1)) := Lib.hid (by
            rw [HX.out.2.2, runV_step _ _ _ _ j (by omega), HSQ.out, HOWN.out])
          by_cases hun : atV l (x) (y + d) < 0
          · have hlk : (Instr.lookup 90 (.map (some b)) (cellV (x) (y + d)) true).run Tryz.prog (wr.setCell ⟨p, 1, none⟩ (.int .i64 (y + d))) = .ok (.tuple #[.int .i64 0, .bool false]) (wr.setCell ⟨p, 1, none⟩ (.int .i64 (y + d))) := by
              rw [eM1.look_ok Tryz.underlying90 (by unfold W64; omega) (by unfold W64; omega), show decide (0 ≤ atV l (x) (y + d)) = false by simp; omega]; unfold pos; rw [if_neg (by omega)]
            have HV3 : Hid (dropV l p0 p1 1 num den = ⟨0, 0, 14⟩) := Lib.hid (by rw [HV.out, HN2.out (by rw [HRS.out, if_pos hun])])
            clear hun
            go_wp2
            obtain ⟨u0, u1⟩ := ret2 e6a (.int .i64 0) (.int .i64 0)
            rw [HV3.out]
            exact bodyPost_ret (v := .tuple #[.agg #[.int .i64 0, .int .i64 0], .int .i64 14]) (by simp [results, Tryz.results16, go_sem, u0, u1]) rfl ⟨rfl, (hBs.setCell g6 _).setCell g6 _⟩
          · have hlk : (Instr.lookup 90 (.map (some b)) (cellV (x) (y + d)) true).run Tryz.prog (wr.setCell ⟨p, 1, none⟩ (.int .i64 (y + d))) = .ok (.tuple #[.int .i64 (atV l (x) (y + d)), .bool true]) (wr.setCell ⟨p, 1, none⟩ (.int .i64 (y + d))) := by
              rw [eM1.look_ok Tryz.underlying90 (by unfold W64; omega) (by unfold W64; omega), show decide (0 ≤ atV l (x) (y + d)) = true by simp; omega]; unfold pos; rw [if_pos (by omega)]
            have hkn2 := atV_known HG.out (show 0 ≤ atV l (x) (y + d) by omega)
            have hbd2 := atV_bd HG.out (x) (y + d)
            have hnn : 0 ≤ atV l (x) (y + d) := by omega
            clear hun
            obtain ⟨v, hv⟩ : ∃ v, atV l (x) (y + d) = v := ⟨_, rfl⟩
            rw [hv] at hlk hbd2 hnn
            rw [hv] at HRS
            clear hv HSQ
            have m1 := mul_bd0 hnn hbd2.2 (show 0 ≤ den by omega) r3
            have m2 := mul_bd0 (show 0 ≤ own by omega) hbd.2 (show 0 ≤ num by omega) (show num ≤ 1000 by omega)
            by_cases hbr : v * den < own * num
            · have HST : Hid (dropSt l p0 p1 1 num den (k + 1) (L + j)) := Lib.hid (HN1.out j (by rw [HRS.out, if_neg (by omega), if_pos hbr]))
              go_wp2
              refine ⟨⟨k + 1, L + j, by go_num, rfl, by omega, by omega, HST, hBs, hBx.trans (Below.mono hBt zo)⟩, by simp [intOf]; omega⟩
            · have HRN : Hid (runV (seqV l p0 p1 1 d) (atV l p0 p1) num den 300000 0 = runV (seqV l p0 p1 1 d) (atV l p0 p1) num den (300000 - (j + 1)) (j + 1)) := Lib.hid (by rw [HRS.out, if_neg (by omega), if_neg hbr])
              clear HRS
              have hz2 := Below.size hBs
              have hz3 := hBt.size
              have hbn := Blk.new (wr.setCell ⟨p, 1, none⟩ (.int .i64 (y + d))) 62 #[.int .i64 (x), .int .i64 (y + d)]
              go_wp2
              refine ⟨⟨j + 1, wr.heap.size, x, y + d, by simp; omega, by simp, by simpa using hbn, by omega, Lib.hid ⟨HNX.out.1.symm, HNX.out.2.symm, HRN.out⟩, by omega, by omega, hBs.alloc hz2 _, hBt.alloc hz3 _⟩, by simp [intOf]; omega⟩
      -- end of inner loops
    · obtain rfl : k = 2 := by omega
      have HV3 : Hid (dropV l p0 p1 p2 num den = ⟨(L : Int), (L : Int) + 2, 0⟩) := Lib.hid (by rw [HV.out, dropSt_two HS.out])
      go_wp2
      obtain ⟨u0, u1⟩ := ret2 c6 (.int .i64 (L : Int)) (.int .i64 ((L : Int) + 2))
      rw [HV3.out]
      exact bodyPost_ret (v := .tuple #[.agg #[.int .i64 (L : Int), .int .i64 ((L : Int) + 2)], .int .i64 0]) (by simp [results, Tryz.results16, go_sem, u0, u1]) rfl ⟨rfl, (hBw.setCell g6 _).setCell g6 _⟩
end Go.Proofs.YtjimdnmdnjhnjaaGreatDoor
