/- Contracts: cut, has and told of parts. -/
import Derived.Test.YtlnkgjkjdllckaaGreatDoorZpCvD
namespace Go.Proofs.YtlnkgjkjdllckaaGreatDoor
open Go.RowKit

def ptP (p : PV) : Array Value := ptC p.a p.b p.c p.d p.none p.up
/-- The numbers of a part are not negative. -/
structure PV.ok (p : PV) : Prop where
  a : NN p.a
  b : NN p.b
  c : NN p.c
  d : NN p.d

theorem shN_nn {n d : Int} (hn : NN n) (hd : 1 ≤ d) : NN (shN n d) := by
  have hg := gcd_pos_left (n := n) (d := d) (by omega)
  unfold shN
  have h1 := Int.ediv_nonneg hn.1 (Int.natCast_nonneg (Int.gcd n d))
  have h2 := Int.ediv_le_self (Int.gcd n d : Int) hn.1
  exact ⟨h1, by have := hn.2; omega⟩
theorem shD_nn {n d : Int} (hd : 1 ≤ d ∧ d ≤ 9223372036854775807) : NN (shD n d) := by
  unfold shD
  have h1 := Int.ediv_nonneg (show 0 ≤ d by omega) (Int.natCast_nonneg (Int.gcd n d))
  have h2 := Int.ediv_le_self (Int.gcd n d : Int) (show 0 ≤ d by omega)
  exact ⟨h1, by omega⟩

theorem PV.frm_ok {p : PV} {n m : Int} (h : p.ok) (hn : NN n) (hm : NN m) : (p.frm n m).ok := by
  unfold PV.frm PV.shut
  split
  · exact ⟨hn, hm, h.c, h.d⟩
  · exact ⟨h.a, h.b, h.c, h.d⟩
theorem PV.to_ok {p : PV} {n m : Int} (h : p.ok) (hn : NN n) (hm : NN m) : (p.to n m).ok := by
  unfold PV.to PV.shut
  split
  · exact ⟨h.a, h.b, hn, hm⟩
  · exact ⟨h.a, h.b, h.c, h.d⟩
theorem PV.cut_ok {p : PV} {n m : Int} (h : p.ok) (hn : -1000000000000000000 ≤ n ∧ n ≤ 1000000000000000000) (hm : -1000000000000000000 ≤ m ∧ m ≤ 1000000000000000000) : (p.cut n m).ok := by
  unfold PV.cut
  split
  · exact ⟨h.a, h.b, h.c, h.d⟩
  · split
    · exact PV.frm_ok h (shN_nn ⟨by omega, by omega⟩ (by omega)) (shD_nn ⟨by omega, by omega⟩)
    · split
      · exact ⟨h.a, h.b, h.c, h.d⟩
      · split
        · exact PV.to_ok h (shN_nn ⟨by omega, by omega⟩ (by omega)) (shD_nn ⟨by omega, by omega⟩)
        · exact h

theorem partFrom_any (g : Nat) (n m : Int) (p : PV) (hp : p.ok) (hn : NN n) (hm : NN m) (w : World) (h : Blk w g 89 (ptP p)) :
    Calls Tryz.prog 93 #[.pointer (some ⟨g, 0, Option.none⟩), .agg #[.int .i64 n, .int .i64 m]] w fun e w' => e = .returned (.tuple #[]) ∧ Blk w' g 89 (ptP (p.frm n m)) ∧ w.grownBy w' (some g) := by
  refine (from_part g n m p.a p.b p.c p.d p.none p.up hn hm hp.a hp.b hp.c hp.d w h _ rfl).mono ?_
  rintro e w' ⟨he, hb, hg⟩
  refine ⟨he, ?_, hg⟩
  unfold PV.frm PV.shut ptP
  cases hd : decide (0 < cmpI (n * p.b) (p.a * m)) <;> simpa [hd] using hb

theorem partTo_any (g : Nat) (n m : Int) (p : PV) (hp : p.ok) (hn : NN n) (hm : NN m) (w : World) (h : Blk w g 89 (ptP p)) :
    Calls Tryz.prog 94 #[.pointer (some ⟨g, 0, Option.none⟩), .agg #[.int .i64 n, .int .i64 m]] w fun e w' => e = .returned (.tuple #[]) ∧ Blk w' g 89 (ptP (p.to n m)) ∧ w.grownBy w' (some g) := by
  refine (to_part g n m p.a p.b p.c p.d p.none p.up hn hm hp.a hp.b hp.c hp.d w h _ rfl).mono ?_
  rintro e w' ⟨he, hb, hg⟩
  refine ⟨he, ?_, hg⟩
  unfold PV.to PV.shut ptP
  cases hd : decide (cmpI (n * p.d) (p.c * m) < 0) <;> simpa [hd] using hb

set_option maxHeartbeats 400000 in
theorem cut_any (g : Nat) (n m : Int) (p : PV) (hp : p.ok) (hn : -1000000000000000000 ≤ n ∧ n ≤ 1000000000000000000) (hm : -1000000000000000000 ≤ m ∧ m ≤ 1000000000000000000) (w : World) (h : Blk w g 89 (ptP p)) :
    Calls Tryz.prog 64 #[.pointer (some ⟨g, 0, Option.none⟩), .int .i64 n, .int .i64 m] w fun e w' => e = .returned (.tuple #[]) ∧ Blk w' g 89 (ptP (p.cut n m)) ∧ w.grownBy w' (some g) := by
  obtain ⟨c0, c1, c2, c3, c4, c5, hfz⟩ := blk6 h
  have f4 := hfz 4
  have hlt := h.lt
  have H := Lib.hid h
  have HO := Lib.hid hp; clear hp hfz h
  obtain ⟨a, b, c, d, none, up⟩ := p
  simp only at c0 c1 c2 c3 c4 c5
  by_cases h0 : m = 0
  · subst h0
    have hE : ptP (PV.cut ⟨a, b, c, d, none, up⟩ n 0) = ptC a b c d (none || decide (n < 0)) up := by unfold PV.cut; rw [if_pos rfl]; rfl
    have HE := Lib.hid hE; clear hE
    cases none
    all_goals
      go_enter Tryz.func64, Tryz.ntmps64
      go_wp2
      go_end0
      refine ⟨rfl, ?_, only_setCell (World.grownBy.refl w _) (.inl rfl) _⟩
      rw [HE.out]
      exact H.out.set_ 4 _
  · have hm0 : (m == 0) = false := by simpa using h0
    by_cases hmp : 0 < m
    · by_cases hnn : n < 0
      · have hE : ptP (PV.cut ⟨a, b, c, d, none, up⟩ n m) = ptP (PV.frm ⟨a, b, c, d, none, up⟩ (shN (-n) m) (shD (-n) m)) := by unfold PV.cut; rw [if_neg h0, if_pos ⟨hmp, hnn⟩]
        have HE := Lib.hid hE; clear hE h0
        go_enter Tryz.func64, Tryz.ntmps64
        go_wp2_with (go_at_call 89; refine (point_any _ _ (by omega) (by omega) _).mono ?_; rintro e w1 ⟨rfl, hB1⟩; obtain ⟨hc1, hf1⟩ := bcell hB1; have hz1 := hB1.size; (try simp at hz1))
        have hblk : Blk w1 g 89 (ptP ⟨a, b, c, d, none, up⟩) := H.out.below hB1 hlt
        refine (partFrom_any g _ _ ⟨a, b, c, d, none, up⟩ HO.out (shN_nn ⟨by omega, by omega⟩ (by omega)) (shD_nn ⟨by omega, by omega⟩) _ hblk).mono ?_
        rintro e w2 ⟨rfl, hb2, hg2⟩
        go_wp2
        go_end0
        exact ⟨rfl, by rw [HE.out]; exact hb2, only_trans (only_of_below hB1 _) hg2⟩
      · have hE : PV.cut ⟨a, b, c, d, none, up⟩ n m = ⟨a, b, c, d, none, up⟩ := by unfold PV.cut; rw [if_neg h0, if_neg (by omega), if_neg (by omega), if_neg (by omega)]
        have HE := Lib.hid hE; clear hE h0
        go_enter Tryz.func64, Tryz.ntmps64
        go_wp2
        go_end0
        exact ⟨rfl, by rw [HE.out]; exact H.out, World.grownBy.refl w _⟩
    · by_cases hnn : n < 0
      · have hmn : m < 0 := by omega
        have hE : ptP (PV.cut ⟨a, b, c, d, none, up⟩ n m) = ptC a b c d true up := by unfold PV.cut; rw [if_neg h0, if_neg (by omega), if_pos (by omega)]; rfl
        have HE := Lib.hid hE; clear hE h0
        go_enter Tryz.func64, Tryz.ntmps64
        go_wp2
        go_end0
        refine ⟨rfl, ?_, only_setCell (World.grownBy.refl w _) (.inl rfl) _⟩
        rw [HE.out]
        exact H.out.set_ 4 _
      · have hmn : m < 0 := by omega
        have hE : ptP (PV.cut ⟨a, b, c, d, none, up⟩ n m) = ptP (PV.to ⟨a, b, c, d, none, up⟩ (shN n (-m)) (shD n (-m))) := by unfold PV.cut; rw [if_neg h0, if_neg (by omega), if_neg (by omega), if_pos (by omega)]
        have HE := Lib.hid hE; clear hE h0
        go_enter Tryz.func64, Tryz.ntmps64
        go_wp2_with (go_at_call 89; refine (point_any _ _ (by omega) (by omega) _).mono ?_; rintro e w1 ⟨rfl, hB1⟩; obtain ⟨hc1, hf1⟩ := bcell hB1; have hz1 := hB1.size; (try simp at hz1))
        have hblk : Blk w1 g 89 (ptP ⟨a, b, c, d, none, up⟩) := H.out.below hB1 hlt
        refine (partTo_any g _ _ ⟨a, b, c, d, none, up⟩ HO.out (shN_nn ⟨by omega, by omega⟩ (by omega)) (shD_nn ⟨by omega, by omega⟩) _ hblk).mono ?_
        rintro e w2 ⟨rfl, hb2, hg2⟩
        go_wp2
        go_end0
        exact ⟨rfl, by rw [HE.out]; exact hb2, only_trans (only_of_below hB1 _) hg2⟩

set_option maxHeartbeats 400000 in
theorem has_any (p : PV) (hp : p.ok) (n m : Int) (hn : NN n) (hm : NN m) (w : World) :
    Calls Tryz.prog 31 #[.agg (ptP p), .agg #[.int .i64 n, .int .i64 m]] w fun e w' => e = .returned (.bool (p.has n m)) ∧ Below w.heap.size w w' := by
  obtain ⟨a, b, c, d, none, up⟩ := p
  obtain ⟨ha, hb, hc', hd⟩ := hp
  simp only at ha hb hc' hd
  unfold ptP ptC
  cases none
  · go_enter Tryz.func31, Tryz.ntmps31
    go_wp2_with fail
    refine (compare_any _ _ _ _ ha hb hn hm _).mono ?_
    rintro e w1 ⟨rfl, hB1⟩; obtain ⟨hc1, hf1⟩ := bcell hB1; have hz1 := hB1.size; (try simp at hz1)
    go_wp2_with fail
    · refine (compare_any _ _ _ _ hn hm hc' hd _).mono ?_
      rintro e w2 ⟨rfl, hB2⟩
      go_wp2
      go_ret
      refine ⟨?_, (by repeat (first | (with_reducible exact Below.refl _ _) | (with_reducible assumption) | ((with_reducible refine Below.setCell ?_ ?_ _); rotate_left; · (first | exact Nat.le_refl _ | (simp; done) | (simp; omega) | omega)) | ((with_reducible refine Below.alloc ?_ ?_ _); rotate_left; · (first | exact Nat.le_refl _ | (simp; done) | (simp; omega) | omega)) | (with_reducible apply Below.drew) | (with_reducible apply below_drewN') | (refine Below.trans ?_ (Below.mono (by assumption) (by first | exact Nat.le_refl _ | (simp; done) | (simp; omega) | omega))) | exact Below.refl _ _ | assumption))⟩
      show Ending.returned (Value.bool _) = _
      congr 2
      grind [PV.has]
    · go_wp2
      go_ret
      refine ⟨?_, (by repeat (first | (with_reducible exact Below.refl _ _) | (with_reducible assumption) | ((with_reducible refine Below.setCell ?_ ?_ _); rotate_left; · (first | exact Nat.le_refl _ | (simp; done) | (simp; omega) | omega)) | ((with_reducible refine Below.alloc ?_ ?_ _); rotate_left; · (first | exact Nat.le_refl _ | (simp; done) | (simp; omega) | omega)) | (with_reducible apply Below.drew) | (with_reducible apply below_drewN') | (refine Below.trans ?_ (Below.mono (by assumption) (by first | exact Nat.le_refl _ | (simp; done) | (simp; omega) | omega))) | exact Below.refl _ _ | assumption))⟩
      show Ending.returned (Value.bool _) = _
      congr 2
      grind [PV.has]
  · go_enter Tryz.func31, Tryz.ntmps31
    go_wp2
    go_ret
    exact ⟨rfl, (by repeat (first | (with_reducible exact Below.refl _ _) | (with_reducible assumption) | ((with_reducible refine Below.setCell ?_ ?_ _); rotate_left; · (first | exact Nat.le_refl _ | (simp; done) | (simp; omega) | omega)) | ((with_reducible refine Below.alloc ?_ ?_ _); rotate_left; · (first | exact Nat.le_refl _ | (simp; done) | (simp; omega) | omega)) | (with_reducible apply Below.drew) | (with_reducible apply below_drewN') | (refine Below.trans ?_ (Below.mono (by assumption) (by first | exact Nat.le_refl _ | (simp; done) | (simp; omega) | omega))) | exact Below.refl _ _ | assumption))⟩

set_option maxHeartbeats 400000 in
theorem told_any (p : PV) (w : World) :
    Calls Tryz.prog 38 #[.agg (ptP p)] w fun e w' => e = .returned (if p.none then .tuple #[.agg #[.int .i64 0, .int .i64 0, .int .i64 0, .int .i64 0], .int .i64 12] else .tuple #[.agg #[.int .i64 p.a, .int .i64 p.b, .int .i64 p.c, .int .i64 p.d], .int .i64 0]) ∧ Below w.heap.size w w' := by
  obtain ⟨a, b, c, d, none, up⟩ := p
  unfold ptP ptC
  cases none
  · go_enter Tryz.func38, Tryz.ntmps38
    go_wp2
    exact bodyPost_ret (v := .tuple #[.agg #[.int .i64 a, .int .i64 b, .int .i64 c, .int .i64 d], .int .i64 0]) (by simp [results, Tryz.results38, go_sem]) rfl ⟨rfl, (by repeat (first | (with_reducible exact Below.refl _ _) | (with_reducible assumption) | ((with_reducible refine Below.setCell ?_ ?_ _); rotate_left; · (first | exact Nat.le_refl _ | (simp; done) | (simp; omega) | omega)) | ((with_reducible refine Below.alloc ?_ ?_ _); rotate_left; · (first | exact Nat.le_refl _ | (simp; done) | (simp; omega) | omega)) | (with_reducible apply Below.drew) | (with_reducible apply below_drewN') | (refine Below.trans ?_ (Below.mono (by assumption) (by first | exact Nat.le_refl _ | (simp; done) | (simp; omega) | omega))) | exact Below.refl _ _ | assumption))⟩
  · go_enter Tryz.func38, Tryz.ntmps38
    go_wp2
    exact bodyPost_ret (v := .tuple #[.agg #[.int .i64 0, .int .i64 0, .int .i64 0, .int .i64 0], .int .i64 12]) (by simp [results, Tryz.results38, go_sem]) rfl ⟨rfl, (by repeat (first | (with_reducible exact Below.refl _ _) | (with_reducible assumption) | ((with_reducible refine Below.setCell ?_ ?_ _); rotate_left; · (first | exact Nat.le_refl _ | (simp; done) | (simp; omega) | omega)) | ((with_reducible refine Below.alloc ?_ ?_ _); rotate_left; · (first | exact Nat.le_refl _ | (simp; done) | (simp; omega) | omega)) | (with_reducible apply Below.drew) | (with_reducible apply below_drewN') | (refine Below.trans ?_ (Below.mono (by assumption) (by first | exact Nat.le_refl _ | (simp; done) | (simp; omega) | omega))) | exact Below.refl _ _ | assumption))⟩
end Go.Proofs.YtlnkgjkjdllckaaGreatDoor
