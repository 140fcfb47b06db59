/- Contracts: what is surely scanned of a track, and what must be scanned anew. -/
import Derived.Test.YtmdbpkomanhpoaaGreatDoorZqCvU
namespace Go.Proofs.YtmdbpkomanhpoaaGreatDoor
open Go.RowKit

set_option maxRecDepth 100000 in
set_option maxHeartbeats 1000000 in
theorem scanned_any (t : Tk) (zs : List Int) (A : Option Addr) (c B : Nat) (w : World) (hz : InOk zs A c B w) :
    Calls Tryz.prog 102 #[.agg (tkC t), .slice A zs.length c] w fun e w' => ∃ v, e = .returned (.tuple #[v, .int .i64 (openE t zs)]) ∧ w'.ownsRow w.heap.size 68 2 v (scanR t zs).length (rngsC (scanR t zs)) ∧ Below w.heap.size w w' := by
  obtain ⟨z1, z2, hR, hB⟩ := hz
  unfold tkC
  have h := Lib.hid (openTrack_any t zs A c B (w.alloc (.cells (tkC t) 28)) ⟨z1, z2, hR.alloc hB _, by simp; omega⟩)
  go_enter Tryz.func102, Tryz.ntmps102
  go_wp2_with fail
  refine h.out.mono ?_
  rintro e w1 ⟨v, rfl, own, hB1⟩
  go_wp2
  go_ret2
  exact ⟨v, rfl, own.mono (by simp), Below.trans (Below.alloc (Below.refl _ _) (Nat.le_refl _) _) (hB1.mono (by simp))⟩

/-- What is left over, and from where on, behind ranges. -/
def stepL (s : List (Int × Int) × Int) (r : Int × Int) : List (Int × Int) × Int := (if s.2 < r.1 then s.1 ++ [(s.2, r.1 - 1)] else s.1, r.2 + 1)
theorem left_fold : ∀ (l : List (Int × Int)) (out : List (Int × Int)) (a : Int), (l.foldl stepL (out, a)).1 = out ++ CtPlain.left a l
  | [], out, a => by simp [CtPlain.left]
  | r :: t, out, a => by
    rw [List.foldl_cons]
    show (t.foldl stepL (if a < r.1 then out ++ [(a, r.1 - 1)] else out, r.2 + 1)).1 = _
    rw [left_fold t, CtPlain.left]
    split <;> simp
def leftS (t : Tk) (l : List (Int × Int)) : List (Int × Int) × Int := l.foldl stepL ([], t.frm)
theorem leftS_snoc (t : Tk) (l : List (Int × Int)) (m : Nat) (h : m < l.length) : leftS t (l.take (m + 1)) = stepL (leftS t (l.take m)) l[m] := by
  unfold leftS; rw [List.take_succ_eq_append_getElem h, List.foldl_append]; rfl
theorem stepL_len (s : List (Int × Int) × Int) (r : Int × Int) : (stepL s r).1.length ≤ s.1.length + 1 := by
  unfold stepL; simp only; split <;> simp
theorem leftS_len : ∀ (l : List (Int × Int)) (s : List (Int × Int) × Int), (l.foldl stepL s).1.length ≤ s.1.length + l.length
  | [], s => by simp
  | r :: l, s => by
    have h1 := leftS_len l (stepL s r)
    have h2 := stepL_len s r
    simp only [List.foldl_cons, List.length_cons]; omega

/-- What must be scanned anew. -/
def anewV (t : Tk) (zs : List Int) : List (Int × Int) := CtPlain.anew t.frm t.til (scanV t zs)
def anewR (t : Tk) (zs : List Int) : List (Int × Int) := if openE t zs = 0 then anewV t zs else []
theorem anew_left (t : Tk) (zs : List Int) : (leftS t (scanV t zs ++ [(t.til + 1, t.til + 1)])).1 = anewV t zs := by
  unfold leftS anewV CtPlain.anew; rw [left_fold]; rfl
theorem sortV_sorted (zs : List Int) : (sortV zs).Pairwise (· ≤ ·) := by
  have h := List.pairwise_mergeSort (le := fun x y : Int => decide (x ≤ y)) (fun a b c => by simp; omega) (fun a b => by simp; omega) zs
  exact h.imp (fun h => by simpa using h)
theorem openE_zero {t : Tk} {zs : List Int} (h : openE t zs = 0) : trackE t = 0 ∧ zs.length ≤ 200 ∧ ∀ p ∈ zs, -2000000 ≤ p ∧ p ≤ 2000000 := by
  unfold openE readE at h
  split at h
  · rename_i h0
    split at h
    · simp at h
    · split at h
      · rename_i h1 h2
        refine ⟨h0, by omega, fun p hp => ?_⟩
        have := List.all_eq_true.1 h2 p hp
        simpa [wi] using this
      · simp at h
  · rename_i h0; exact absurd h h0
theorem scan_bd {t : Tk} {zs : List Int} (h : openE t zs = 0) : ∀ r ∈ scanV t zs, 0 ≤ r.1 ∧ r.1 ≤ r.2 ∧ r.2 ≤ 10000000 := by
  obtain ⟨h0, h1, h2⟩ := openE_zero h
  obtain ⟨T1, T2, T3, T4, T5⟩ := trackE_zero h0
  intro r hr
  have hc := (CtPlain.join_spec t.frm t.til t.slip t.reach (sortV zs) (sortV_sorted zs)).1
  have hm := CtPlain.canon_mem _ _ hc r hr
  have hb := outV_bd t T1 T2 T3 T4 (sortV zs) (fun p hp => h2 p (sortV_mem hp)) [] (fun q hq => by cases hq) r hr
  omega
theorem scan_len {t : Tk} {zs : List Int} (h : openE t zs = 0) : (scanV t zs).length ≤ 200 := by
  have h1 : (scanV t zs).length ≤ 0 + (sortV zs).length := outV_len t (sortV zs) []
  have h2 := sortV_length zs
  have h3 := (openE_zero h).2.1
  omega

set_option maxRecDepth 100000 in
set_option maxHeartbeats 2000000 in
theorem anew_any (t : Tk) (zs : List Int) (A : Option Addr) (c B : Nat) (w : World) (hz : InOk zs A c B w) :
    Calls Tryz.prog 41 #[.agg (tkC t), .slice A zs.length c] w fun e w' => ∃ v, e = .returned (.tuple #[v, .int .i64 (openE t zs)]) ∧ w'.ownsRow w.heap.size 68 2 v (anewR t zs).length (rngsC (anewR t zs)) ∧ Below w.heap.size w w' := by
  obtain ⟨z1, z2, hR, hB⟩ := hz
  obtain ⟨i0, hi, iz0, iz1, iz2⟩ := info_parts infoRange
  unfold tkC
  have h := Lib.hid (openTrack_any t zs A c B (w.alloc (.cells (tkC t) 28)) ⟨z1, z2, hR.alloc hB _, by simp; omega⟩)
  by_cases h0 : openE t zs = 0
  · have h1 : (openE t zs != 0) = false := by simpa using h0
    have HS : Hid (scanR t zs = scanV t zs) := by unfold scanR; rw [if_pos h0]; rfl
    have HA : Hid (anewR t zs = anewV t zs) := by unfold anewR; rw [if_pos h0]; rfl
    have hbd := Lib.hid (scan_bd h0)
    have hlen := scan_len h0
    obtain ⟨T1, T2, T3, T4, T5⟩ := trackE_zero (openE_zero h0).1
    have H0 := Lib.hid h0; clear h0
    go_enter Tryz.func41, Tryz.ntmps41
    go_wp2_with fail
    refine h.out.mono ?_
    rintro e w1 ⟨v, rfl, own, hB1⟩
    rw [HS.out] at own
    have own := own.mono (base' := w.heap.size + 1) (by simp)
    have b1 : Blk w1 w.heap.size 28 (tkC t) := Blk.below (Blk.new w _ _) hB1 (by simp)
    have hBB : Below w.heap.size w w1 := (by repeat (first | (with_reducible exact Below.refl _ _) | (with_reducible assumption) | ((with_reducible refine Below.setCell ?_ ?_ _); rotate_left; · (first | exact Nat.le_refl _ | (simp; done) | (simp; omega) | omega)) | ((with_reducible refine Below.alloc ?_ ?_ _); rotate_left; · (first | exact Nat.le_refl _ | (simp; done) | (simp; omega) | omega)) | (with_reducible apply Below.drew) | (with_reducible apply below_drewN') | (refine Below.trans ?_ (Below.mono (by assumption) (by first | exact Nat.le_refl _ | (simp; done) | (simp; omega) | omega))) | exact Below.refl _ _ | assumption))
    have hsz := Below.size hBB
    have lb := b1.lt
    obtain ⟨t0, t1, _, _, _⟩ := blk4 b1
    clear hB1
    go_wp2_with (at_builtin; refine wpList_append_own _ rfl _ _ 50 rfl (w.heap.size + 1) 68 i0 (.agg #[.int .i64 0, .int .i64 0]) 2 16 Tryz.underlying50 hi iz0 iz1 iz2 rfl (by decide) _ _ _ rfl (own.alloc _) ⟨w1.heap.size, 0, none⟩ 1 1 [.int .i64 (t.til + 1), .int .i64 (t.til + 1)] rfl rfl ?c1 ?c2 ?c3 ?c4 ?c5 ?_)
    case c1 =>
      intro j u hu
      rw [Addr.add_lit, Nat.zero_add, (Blk.new w1 68 #[.int .i64 (t.til + 1), .int .i64 (t.til + 1)]).cell j, List.getElem?_toArray]
      exact hu
    case c2 => simp [Value.oneCell']
    case c3 => unfold maxLen; omega
    case c4 => omega
    case c5 => simp; omega
    intro v' w3 own3 hgrow _
    have own3 : w3.ownsRow (w.heap.size + 1) 68 2 v' (scanV t zs ++ [(t.til + 1, t.til + 1)]).length (rngsC (scanV t zs ++ [(t.til + 1, t.til + 1)])) := by
      rw [rngsC_append, show (scanV t zs ++ [(t.til + 1, t.til + 1)]).length = (scanV t zs).length + 1 by simp]; exact own3
    have hB3 : Below w.heap.size w w3 := below_own (hBB.alloc hsz _) (Nat.le_succ _) (own.alloc _) hgrow
    have b3 : Blk w3 w.heap.size 28 (tkC t) := (b1.alloc _).grown hgrow (own_ne own (.inl (Nat.lt_succ_self _)))
    have hbd2 : Hid (∀ r ∈ scanV t zs ++ [(t.til + 1, t.til + 1)], 0 ≤ r.1 ∧ r.1 ≤ r.2 ∧ r.2 ≤ 10000000) := by
      refine Lib.hid fun r hr => ?_
      rcases List.mem_append.1 hr with hr | hr
      · exact hbd.out r hr
      · simp at hr; subst hr; simp only; omega
    have hlen2 : (scanV t zs ++ [(t.til + 1, t.til + 1)]).length ≤ 201 := by simp; omega
    have HAN := Lib.hid (anew_left t zs)
    clear hbd hlen own b1 hBB hgrow t0 t1 lb hsz
    generalize scanV t zs ++ [(t.til + 1, t.til + 1)] = l at *
    obtain ⟨A3, cap3, hv3, hn3, hc3⟩ := own_shape own3
    subst hv3
    obtain ⟨t0, t1, _, _, _⟩ := blk4 b3
    have lb := b3.lt
    go_wp2_with fail
    go_loopw [8, 9, 34] (fun v a i wr => ∃ m : Nat, m ≤ l.length ∧ i = .int .i64 m ∧ a = .int .i64 (leftS t (l.take m)).2 ∧ (-100000000 ≤ (leftS t (l.take m)).2 ∧ (leftS t (l.take m)).2 ≤ 100000000) ∧ wr.ownsRow w3.heap.size 68 2 v (leftS t (l.take m)).1.length (rngsC (leftS t (l.take m)).1) ∧ Below w3.heap.size w3 wr) (fun _ _ i _ => l.length - (intOf i).toNat)
    case atStart => exact ⟨0, Nat.zero_le _, rfl, rfl, by simp only [leftS, List.take_zero, List.foldl_nil]; omega, ⟨rfl, .inl ⟨rfl, rfl⟩⟩, Below.refl _ _⟩
    case round =>
      obtain ⟨m, hm, rfl, rfl, hab, ownO, hBr⟩ := hrel
      have hsr := Below.size hBr
      by_cases hlt : m < l.length
      · obtain ⟨g3, rfl, hg3, hg3l, hcs, _⟩ := hc3 (by omega)
        have hrb := hbd2.out _ (List.getElem_mem hlt)
        have hg := rngsC_get l m _ (List.getElem?_eq_getElem hlt)
        have r0 : wr.cell? ⟨g3, m * 2, none⟩ = some (.int .i64 l[m].1) := by rw [hBr.cell (p := ⟨g3, m * 2, none⟩) hg3l, hcs _ (by omega)]; exact hg.1
        have r1 : wr.cell? ⟨g3, m * 2 + 1, none⟩ = some (.int .i64 l[m].2) := by rw [hBr.cell (p := ⟨g3, m * 2 + 1, none⟩) hg3l, hcs _ (by omega)]; exact hg.2
        have HST := Lib.hid (leftS_snoc t l m hlt)
        have hol : (leftS t (l.take m)).1.length ≤ m := by
          have := leftS_len (l.take m) ([], t.frm); simp at this; unfold leftS; omega
        clear hcs hc3 own3 hg
        generalize l[m] = r at *
        generalize leftS t (l.take m) = S at *
        obtain ⟨out, a⟩ := S
        simp only at hab ownO hol
        by_cases hq : a < r.1
        · go_wp2_with (at_builtin; refine wpList_append_own _ rfl _ _ 50 rfl w3.heap.size 68 i0 (.agg #[.int .i64 0, .int .i64 0]) 2 16 Tryz.underlying50 hi iz0 iz1 iz2 rfl (by decide) _ _ _ rfl ((ownO.alloc _).alloc _) ⟨wr.heap.size + 1, 0, none⟩ 1 1 [.int .i64 a, .int .i64 (r.1 - 1)] rfl rfl ?d1 ?d2 ?d3 ?d4 ?d5 ?_)
          case d1 =>
            intro j u hu
            rw [Addr.add_lit, Nat.zero_add, (Blk.new' (wr.alloc (.cells #[.int .i64 r.1, .int .i64 r.2] 68)) 68 #[.int .i64 a, .int .i64 (r.1 - 1)] (g := wr.heap.size + 1) (by simp)).cell j, List.getElem?_toArray]
            exact hu
          case d2 => simp [Value.oneCell']
          case d3 => unfold maxLen; omega
          case d4 => omega
          case d5 => simp; omega
          intro v5 w5 own5 hgrow _
          have hB5 : Below w3.heap.size w3 w5 := below_own ((hBr.alloc hsr _).alloc (by simp; omega) _) (Nat.le_refl _) ((ownO.alloc _).alloc _) hgrow
          have hb5 : Blk w5 wr.heap.size 68 #[.int .i64 r.1, .int .i64 r.2] := ((Blk.new wr _ _).alloc _).grown hgrow (own_ne ownO (.inr (Nat.le_refl _)))
          have x0 : w5.cell? ⟨wr.heap.size, 0, none⟩ = some (.int .i64 r.1) := hb5.cell 0
          have x1 : w5.cell? ⟨wr.heap.size, 1, none⟩ = some (.int .i64 r.2) := hb5.cell 1
          go_wp2
          go_roundw
          case rel => exact ⟨m + 1, by omega, by go_num, by rw [HST.out]; rfl, by rw [HST.out]; simp only [stepL]; omega, by rw [HST.out]; simp only [stepL, if_pos hq]; rw [rngsC_append, show (out ++ [(a, r.1 - 1)]).length = out.length + 1 by simp]; exact own5, hB5⟩
          case measure => simp [intOf]; omega
        · go_wp2
          go_roundw
          case rel => exact ⟨m + 1, by omega, by go_num, by rw [HST.out]; rfl, by rw [HST.out]; simp only [stepL]; omega, by rw [HST.out]; simp only [stepL, if_neg hq]; exact ownO.alloc _, hBr.alloc hsr _⟩
          case measure => simp [intOf]; omega
      · obtain rfl : m = l.length := by omega
        rw [List.take_length] at ownO
        rw [HAN.out] at ownO
        go_wp2
        go_ret2
        exact ⟨_, by rw [H0.out]; rfl, by rw [HA.out]; exact ownO.mono (Below.size hB3), hB3.trans (hBr.mono (Below.size hB3))⟩
  · have h1 : (openE t zs != 0) = true := by simpa using h0
    have HA : Hid (anewR t zs = []) := by unfold anewR; rw [if_neg h0]; rfl
    have H0 := Lib.hid h0; clear h0
    go_enter Tryz.func41, Tryz.ntmps41
    go_wp2_with fail
    refine h.out.mono ?_
    rintro e w1 ⟨v, rfl, own, hB1⟩
    go_wp2
    go_ret2
    refine ⟨_, rfl, ?_, (by repeat (first | (with_reducible exact Below.refl _ _) | (with_reducible assumption) | ((with_reducible refine Below.setCell ?_ ?_ _); rotate_left; · (first | exact Nat.le_refl _ | (simp; done) | (simp; omega) | omega)) | ((with_reducible refine Below.alloc ?_ ?_ _); rotate_left; · (first | exact Nat.le_refl _ | (simp; done) | (simp; omega) | omega)) | (with_reducible apply Below.drew) | (with_reducible apply below_drewN') | (refine Below.trans ?_ (Below.mono (by assumption) (by first | exact Nat.le_refl _ | (simp; done) | (simp; omega) | omega))) | exact Below.refl _ _ | assumption))⟩
    rw [HA.out]
    exact ⟨rfl, .inl ⟨rfl, rfl⟩⟩
end Go.Proofs.YtmdbpkomanhpoaaGreatDoor
