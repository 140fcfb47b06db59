/- Contract: what is surely scanned of a track, or the error. -/
import Derived.Test.YtmdbpkomanhpoaaGreatDoorZqCvT
import Derived.Test.YtmdbpkomanhpoaaGreatDoorZqCtPlain
namespace Go.Proofs.YtmdbpkomanhpoaaGreatDoor
open Go.RowKit

/-- The error of readings. -/
def readE (zs : List Int) : Int := if 200 < zs.length then 8 else if zs.all (fun p => wi p (-2000000) 2000000) then 0 else 2
def openE (t : Tk) (zs : List Int) : Int := if trackE t = 0 then readE zs else trackE t
/-- What is surely scanned. -/
def scanV (t : Tk) (zs : List Int) : List (Int × Int) := CtPlain.join t.frm t.til t.slip t.reach (sortV zs)
def scanR (t : Tk) (zs : List Int) : List (Int × Int) := if openE t zs = 0 then scanV t zs else []
/-- The cells of ranges. -/
def rngsC (l : List (Int × Int)) : List Value := l.flatMap fun r => [.int .i64 r.1, .int .i64 r.2]
theorem rngsC_length (l : List (Int × Int)) : (rngsC l).length = l.length * 2 := by
  induction l with
  | nil => rfl
  | cons p l ih => simp only [rngsC, List.flatMap_cons, List.length_append] at ih ⊢; rw [ih]; simp; omega
theorem rngsC_append (l m : List (Int × Int)) : rngsC (l ++ m) = rngsC l ++ rngsC m := by simp [rngsC, List.flatMap_append]
theorem infoRange : (Tryz.prog.info? 68).map (fun i => (i.zero, i.size, i.bytes)) = some (some (.agg #[.int .i64 0, .int .i64 0]), 2, 16) := by kernel_rfl

theorem intsC_get (zs : List Int) (k : Nat) (h : k < zs.length) : (intsC zs)[k]? = some (.int .i64 zs[k]) := by simp [intsC, h]
/-- What is asked of numbers in memory. -/
structure InOk (zs : List Int) (A : Option Addr) (c B : Nat) (w : World) : Prop where
  len : zs.length ≤ 1000000000
  i64 : ∀ p ∈ zs, I64 p
  row : Row w B 1 A zs.length (intsC zs)
  base : B ≤ w.heap.size
theorem InOk.ints {zs : List Int} {A : Option Addr} {c B : Nat} {w : World} (h : InOk zs A c B w) : Ints w.heap.size w (.slice A zs.length c) zs := by
  rcases Nat.eq_zero_or_pos zs.length with h0 | h0
  · exact .inl ⟨A, c, by rw [h0], List.eq_nil_of_length_eq_zero h0⟩
  · obtain ⟨g, o, rfl, hg, hc⟩ := h.row.2 h0
    refine .inr ⟨g, o, c, rfl, by have := h.base; omega, fun j hj => ?_⟩
    rw [List.getElem?_eq_getElem hj]
    exact hc j _ (intsC_get zs j hj)

theorem Ints.more {n m : Nat} {W : World} {sv : Value} {zs : List Int} (h : Ints n W sv zs) (hm : n ≤ m) : Ints m W sv zs := by
  rcases h with h | ⟨b, off, cap, e, hb, hc⟩
  · exact .inl h
  · exact .inr ⟨b, off, cap, e, by omega, hc⟩
/-- A row of the call's own, as a slice value. -/
theorem own_shape {w : World} {base e size n : Nat} {v : Value} {xs : List Value} (h : w.ownsRow base e size v n xs) :
    ∃ A cap, v = .slice A n cap ∧ n ≤ cap ∧ (0 < n → ∃ g, A = some ⟨g, 0, none⟩ ∧ base ≤ g ∧ g < w.heap.size ∧ (∀ j, j < n * size → w.cell? ⟨g, j, none⟩ = xs[j]?) ∧ (∀ j, w.frozen? ⟨g, j, none⟩ = false)) := by
  have h' := h
  rcases h.2 with ⟨rfl, rfl⟩ | ⟨g, cap, cur, rfl, hb, hh, hn, _⟩
  · exact ⟨none, 0, rfl, Nat.le_refl _, fun hn => absurd hn (by omega)⟩
  · exact ⟨_, cap, rfl, hn, fun _ => ⟨g, rfl, hb, (Array.getElem?_eq_some_iff.1 hh).1, h'.cellAt, h'.frozenAt⟩⟩
theorem sortV_mem {zs : List Int} {p : Int} (h : p ∈ sortV zs) : p ∈ zs := (List.mergeSort_perm zs _).mem_iff.1 h
/-- The ranges of the first readings. -/
def outV (t : Tk) (ps : List Int) : List (Int × Int) := ps.foldl (fun out p => CtPlain.put out (CtPlain.rng t.frm t.til t.slip t.reach p)) []
theorem outV_snoc (t : Tk) (ps : List Int) (m : Nat) (h : m < ps.length) : outV t (ps.take (m + 1)) = CtPlain.put (outV t (ps.take m)) (CtPlain.rng t.frm t.til t.slip t.reach ps[m]) := by
  unfold outV; rw [List.take_succ_eq_append_getElem h, List.foldl_append]; rfl
theorem rngsC_get : ∀ (l : List (Int × Int)) (k : Nat) (r : Int × Int), l[k]? = some r → (rngsC l)[k * 2]? = some (.int .i64 r.1) ∧ (rngsC l)[k * 2 + 1]? = some (.int .i64 r.2)
  | [], k, p, h => by simp at h
  | q :: l, 0, p, h => by obtain rfl : q = p := by simpa using h
                          exact ⟨rfl, rfl⟩
  | q :: l, k + 1, p, h => by
    have ih := rngsC_get l k p (by simpa using h)
    have e : ∀ j, (rngsC (q :: l))[(k + 1) * 2 + j]? = (rngsC l)[k * 2 + j]? := fun j => by
      rw [show (k + 1) * 2 + j = (k * 2 + j) + 2 by omega]; rfl
    exact ⟨(e 0).trans ih.1, (e 1).trans ih.2⟩
theorem rngsC_set_last (l : List (Int × Int)) (s : Int × Int) (x : Int) : (rngsC (l ++ [s])).set (l.length * 2 + 1) (.int .i64 x) = rngsC (l ++ [(s.1, x)]) := by
  rw [rngsC_append, rngsC_append, List.set_append_right _ _ (by rw [rngsC_length]; omega), rngsC_length]
  rw [show l.length * 2 + 1 - l.length * 2 = 1 by omega]
  rfl
theorem put_skip {out : List (Int × Int)} {r : Int × Int} (h : r.2 < r.1) : CtPlain.put out r = out := by unfold CtPlain.put; rw [if_pos h]
theorem put_nil {r : Int × Int} (h : r.1 ≤ r.2) : CtPlain.put [] r = [r] := by unfold CtPlain.put; rw [if_neg (by omega)]; rfl
theorem put_join {l : List (Int × Int)} {s r : Int × Int} (h : r.1 ≤ r.2) (hj : r.1 ≤ s.2 + 1) : CtPlain.put (l ++ [s]) r = l ++ [(s.1, max s.2 r.2)] := by
  unfold CtPlain.put; rw [if_neg (by omega)]; simp [hj]
theorem put_far {l : List (Int × Int)} {s r : Int × Int} (h : r.1 ≤ r.2) (hj : ¬ r.1 ≤ s.2 + 1) : CtPlain.put (l ++ [s]) r = l ++ [s] ++ [r] := by
  unfold CtPlain.put; rw [if_neg (by omega)]; simp [hj]
theorem put_bd {out : List (Int × Int)} {r : Int × Int} (ho : ∀ q ∈ out, -10000000 ≤ q.2 ∧ q.2 ≤ 10000000) (hr : -10000000 ≤ r.2 ∧ r.2 ≤ 10000000) : ∀ q ∈ CtPlain.put out r, -10000000 ≤ q.2 ∧ q.2 ≤ 10000000 := by
  intro q hq
  by_cases h : r.2 < r.1
  · rw [put_skip h] at hq; exact ho q hq
  · have h : r.1 ≤ r.2 := by omega
    rcases List.eq_nil_or_concat out with rfl | ⟨l, s, rfl⟩
    · rw [put_nil h] at hq; simp at hq; subst hq; exact hr
    · rw [List.concat_eq_append] at ho hq
      by_cases hj : r.1 ≤ s.2 + 1
      · rw [put_join h hj] at hq
        rcases List.mem_append.1 hq with hq | hq
        · exact ho q (by simp [hq])
        · simp at hq; subst hq
          have := ho s (by simp)
          simp only; omega
      · rw [put_far h hj] at hq
        rcases List.mem_append.1 hq with hq | hq
        · exact ho q hq
        · simp at hq; subst hq; exact hr
theorem outV_bd (t : Tk) (h1 : 0 ≤ t.frm ∧ t.frm ≤ 1000000) (h2 : 0 ≤ t.til ∧ t.til ≤ 1000000) (h3 : 0 ≤ t.slip ∧ t.slip ≤ 1000000) (h4 : 0 ≤ t.reach ∧ t.reach ≤ 1000000) :
    ∀ (ps : List Int), (∀ p ∈ ps, -2000000 ≤ p ∧ p ≤ 2000000) → ∀ out : List (Int × Int), (∀ q ∈ out, -10000000 ≤ q.2 ∧ q.2 ≤ 10000000) → ∀ q ∈ ps.foldl (fun out p => CtPlain.put out (CtPlain.rng t.frm t.til t.slip t.reach p)) out, -10000000 ≤ q.2 ∧ q.2 ≤ 10000000
  | [], _, out, ho => ho
  | p :: ps, hp, out, ho => outV_bd t h1 h2 h3 h4 ps (fun x hx => hp x (by simp [hx])) _ (put_bd ho (by have := hp p (by simp); simp only [CtPlain.rng]; omega))
theorem put_len (out : List (Int × Int)) (r : Int × Int) : (CtPlain.put out r).length ≤ out.length + 1 := by
  by_cases h : r.2 < r.1
  · rw [put_skip h]; omega
  · have h : r.1 ≤ r.2 := by omega
    rcases List.eq_nil_or_concat out with rfl | ⟨l, s, rfl⟩
    · rw [put_nil h]; simp
    · rw [List.concat_eq_append]
      by_cases hj : r.1 ≤ s.2 + 1
      · rw [put_join h hj]; simp
      · rw [put_far h hj]; simp
theorem outV_len (t : Tk) : ∀ (ps : List Int) (out : List (Int × Int)), (ps.foldl (fun out p => CtPlain.put out (CtPlain.rng t.frm t.til t.slip t.reach p)) out).length ≤ out.length + ps.length
  | [], out => by simp
  | p :: ps, out => by
    have h1 := outV_len t ps (CtPlain.put out (CtPlain.rng t.frm t.til t.slip t.reach p))
    have h2 := put_len out (CtPlain.rng t.frm t.til t.slip t.reach p)
    simp only [List.foldl_cons, List.length_cons]
    omega
theorem trackE_zero {t : Tk} (h : trackE t = 0) : (0 ≤ t.frm ∧ t.frm ≤ 1000000) ∧ (0 ≤ t.til ∧ t.til ≤ 1000000) ∧ (0 ≤ t.slip ∧ t.slip ≤ 1000000) ∧ (0 ≤ t.reach ∧ t.reach ≤ 1000000) ∧ t.frm ≤ t.til := by
  unfold trackE at h
  split at h
  · simp at h
  · split at h
    · simp at h
    · split at h
      · simp at h
      · split at h
        · simp at h
        · split at h
          · simp at h
          · rename_i h1 h2 h3 h4 h5
            simp [wi] at h1 h2 h3 h4
            exact ⟨h1, h2, h3, h4, by omega⟩

set_option maxRecDepth 100000 in
set_option maxHeartbeats 2000000 in
theorem openTrack_any (t : Tk) (zs : List Int) (A : Option Addr) (c B : Nat) (w : World) (hz : InOk zs A c B w) :
    Calls Tryz.prog 59 #[.agg (tkC t), .slice A zs.length c] w fun e w' => ∃ v, e = .returned (.tuple #[v, .int .i64 (openE t zs)]) ∧ w'.ownsRow w.heap.size 68 2 v (scanR t zs).length (rngsC (scanR t zs)) ∧ Below w.heap.size w w' := by
  have hI := hz.ints
  obtain ⟨z1, z2, hR, hB⟩ := hz
  obtain ⟨i0, hi, iz0, iz1, iz2⟩ := info_parts infoRange
  unfold tkC
  by_cases h0 : trackE t = 0
  · have h1 : (trackE t != 0) = false := by simpa using h0
    by_cases h2 : 200 < zs.length
    · have h2' : (200 : Int) < (zs.length : Int) := by omega
      have HO : Hid (openE t zs = 8) := by unfold openE readE; rw [if_pos h0, if_pos h2]; rfl
      have HS : Hid (scanR t zs = []) := by unfold scanR; rw [HO.out]; rfl
      have H0 := Lib.hid h0; clear h0
      go_enter Tryz.func59, Tryz.ntmps59
      go_wp2_with fail
      refine (checkTrack_any t _).mono ?_
      rintro e w1 ⟨rfl, hB1⟩; obtain ⟨hc1, hf1⟩ := bcell hB1; have hz1 := hB1.size; (try simp at hz1)
      go_wp2
      go_ret2
      refine ⟨_, by rw [HO.out]; rfl, ?_, (by repeat (first | (with_reducible exact Below.refl _ _) | (with_reducible assumption) | ((with_reducible refine Below.setCell ?_ ?_ _); rotate_left; · (first | exact Nat.le_refl _ | (simp; done) | (simp; omega) | omega)) | ((with_reducible refine Below.alloc ?_ ?_ _); rotate_left; · (first | exact Nat.le_refl _ | (simp; done) | (simp; omega) | omega)) | (with_reducible apply Below.drew) | (with_reducible apply below_drewN') | (refine Below.trans ?_ (Below.mono (by assumption) (by first | exact Nat.le_refl _ | (simp; done) | (simp; omega) | omega))) | exact Below.refl _ _ | assumption))⟩
      rw [HS.out]
      exact ⟨rfl, .inl ⟨rfl, rfl⟩⟩
    · have h2' : (zs.length : Int) ≤ 200 := by omega
      have HO : Hid (openE t zs = if zs.all (fun p => wi p (-2000000) 2000000) then 0 else 2) := by unfold openE readE; rw [if_pos h0, if_neg h2]; rfl
      have H0 := Lib.hid h0; clear h0
      go_enter Tryz.func59, Tryz.ntmps59
      go_wp2_with fail
      refine (checkTrack_any t _).mono ?_
      rintro e w1 ⟨rfl, hB1⟩; obtain ⟨hc1, hf1⟩ := bcell hB1; have hz1 := hB1.size; (try simp at hz1)
      have b1 : Blk w1 w.heap.size 28 (tkC t) := Blk.below (Blk.new w _ _) hB1 (by simp)
      have hBB : Below w.heap.size w w1 := (by repeat (first | (with_reducible exact Below.refl _ _) | (with_reducible assumption) | ((with_reducible refine Below.setCell ?_ ?_ _); rotate_left; · (first | exact Nat.le_refl _ | (simp; done) | (simp; omega) | omega)) | ((with_reducible refine Below.alloc ?_ ?_ _); rotate_left; · (first | exact Nat.le_refl _ | (simp; done) | (simp; omega) | omega)) | (with_reducible apply Below.drew) | (with_reducible apply below_drewN') | (refine Below.trans ?_ (Below.mono (by assumption) (by first | exact Nat.le_refl _ | (simp; done) | (simp; omega) | omega))) | exact Below.refl _ _ | assumption))
      clear hc1 hf1 hB1
      go_wp2_with fail
      go_loop [25] (fun i => ∃ k : Nat, k ≤ zs.length ∧ i = .int .i64 k ∧ Hid ((zs.take k).all (fun p => wi p (-2000000) 2000000) = true)) (fun i => zs.length - (intOf i).toNat)
      case atStart => exact ⟨0, Nat.zero_le _, rfl, rfl⟩
      case round =>
        obtain ⟨k, hk, rfl, HK⟩ := hrel
        by_cases hlt : k < zs.length
        · obtain ⟨g, o, hA, hg, hcs⟩ := (hR.below hBB hB).2 (by omega)
          have c0 := hcs k _ (intsC_get zs k hlt)
          subst hA
          clear hcs
          cases hq : wi zs[k] (-2000000) 2000000
          · have HE : Hid (openE t zs = 2) := by rw [HO.out, if_neg]; · rfl
                                                 · intro h; rw [List.all_eq_true.1 h zs[k] (List.getElem_mem hlt)] at hq; cases hq
            have HS : Hid (scanR t zs = []) := by unfold scanR; rw [HE.out]; rfl
            go_wp2_with (go_at_call 83; refine (small_any _ _ (by omega) (by omega) _).mono ?_; rintro e w1 ⟨rfl, rfl⟩)
            go_ret2
            refine ⟨_, by rw [HE.out]; rfl, ?_, hBB⟩
            rw [HS.out]
            exact ⟨rfl, .inl ⟨rfl, rfl⟩⟩
          · have HQ := Lib.hid hq
            go_wp2_with (go_at_call 83; refine (small_any _ _ (by omega) (by omega) _).mono ?_; rintro e w1 ⟨rfl, rfl⟩)
            go_round
            case rel => exact ⟨k + 1, by omega, by go_num, Lib.hid (by rw [List.take_succ_eq_append_getElem hlt, List.all_append, HK.out]; simp [HQ.out])⟩
            case measure => simp [intOf]; omega
        · obtain rfl : k = zs.length := by omega
          have HE : Hid (openE t zs = 0) := by rw [HO.out, if_pos]; · rfl
                                               · rw [← HK.out, List.take_length]
          have HS : Hid (scanR t zs = scanV t zs) := by unfold scanR; rw [HE.out]; rfl
          have hall : Hid (∀ p ∈ zs, -2000000 ≤ p ∧ p ≤ 2000000) := by
            refine Lib.hid fun p hp => ?_
            have h := HK.out
            rw [List.take_length] at h
            have h := List.all_eq_true.1 h p hp
            simpa [wi] using h
          obtain ⟨T1, T2, T3, T4, T5⟩ := trackE_zero H0.out
          go_wp2_with fail
          refine (values_any _ _ _ _).mono ?_
          rintro e w2 ⟨rfl, hw2⟩
          have b2 : Blk w2 w1.heap.size 107 #[.slice A zs.length c] := by rw [hw2]; exact Blk.new _ _ _
          have b3 : Blk w2 w.heap.size 28 (tkC t) := by rw [hw2]; exact b1.alloc _
          have hB2 : Below w.heap.size w w2 := by rw [hw2]; exact hBB.alloc (Below.size hBB) _
          clear hw2
          go_wp2_with fail
          refine (sorted_any w1.heap.size (.slice A zs.length c) zs z1 _ b2.lt (b2.cell 0) ((hI.below hB2).more (Below.size hB2))).mono ?_
          rintro e w3 ⟨v9, rfl, own9, hB3⟩
          have b4 := b3.below hB3 b3.lt
          have hB4 : Below w.heap.size w w3 := hB2.trans (hB3.mono (Below.size hB2))
          obtain ⟨A9, cap9, rfl, hn9, hc9⟩ := own_shape own9
          have hl9 : (sortV zs).length = zs.length := sortV_length zs
          have HL9 := Lib.hid hl9; clear hl9
          have l3 := b4.lt
          clear b1 b2 b3 hBB hB2 hB3
          go_wp2_with fail
          go_loopw [10, 38] (fun v i wr => ∃ m : Nat, m ≤ zs.length ∧ i = .int .i64 m ∧ wr.ownsRow w3.heap.size 68 2 v (outV t ((sortV zs).take m)).length (rngsC (outV t ((sortV zs).take m))) ∧ Below w3.heap.size w3 wr) (fun _ i _ => zs.length - (intOf i).toNat)
          case atStart => exact ⟨0, Nat.zero_le _, rfl, ⟨rfl, .inl ⟨rfl, rfl⟩⟩, Below.refl _ _⟩
          case round =>
            obtain ⟨m, hm, rfl, own, hBr⟩ := hrel
            have hsr := Below.size hBr
            by_cases hlt : m < zs.length
            · obtain ⟨g9, rfl, hg9, hg9l, hcs, _⟩ := hc9 (by omega)
              have hms : m < (sortV zs).length := by rw [HL9.out]; exact hlt
              have hpb := hall.out _ (sortV_mem (List.getElem_mem hms))
              have hp9 : wr.cell? ⟨g9, m, none⟩ = some (.int .i64 (sortV zs)[m]) := by
                rw [hBr.cell (p := ⟨g9, m, none⟩) hg9l, hcs m (by omega)]; simp [hms]
              have hOS := Lib.hid (outV_snoc t (sortV zs) m hms)
              have hbt := b4.below hBr l3
              obtain ⟨t0, t1, t2, t3, _⟩ := blk4 hbt
              have hob := Lib.hid (outV_bd t T1 T2 T3 T4 ((sortV zs).take m) (fun x hx => hall.out x (sortV_mem (List.mem_of_mem_take hx))) [] (fun q hq => by cases hq))
              have hob : Hid (∀ q ∈ outV t ((sortV zs).take m), -10000000 ≤ q.2 ∧ q.2 ≤ 10000000) := hob
              have hol : Hid ((outV t ((sortV zs).take m)).length ≤ m) := by
                refine Lib.hid (Nat.le_trans (outV_len t _ []) ?_)
                simp; omega
              clear hcs hc9 own9 b4
              generalize (sortV zs)[m] = p at *
              generalize outV t ((sortV zs).take m) = out at *
              go_upto_region 17 with fail
              go_cut [13] (fun s13 wx => ∃ b, s13 = .pointer (some ⟨b, 0, none⟩) ∧ Blk wx b 68 #[.int .i64 (max t.frm (p + t.slip - t.reach)), .int .i64 (min t.til (p - t.slip + t.reach))] ∧ wr.heap.size ≤ b ∧ Below wr.heap.size wr wx)
              case first =>
                go_wp2
                go_meet
                exact ⟨_, rfl, Blk.new _ _ _, Nat.le_refl _, (Below.refl _ _).alloc (Nat.le_refl _) _⟩
              case rest =>
                obtain ⟨b, rfl, hb, hbl, hBw⟩ := hcut
                have own1 := own_below own hBw
                have hB1 := hBr.trans (hBw.mono hsr)
                have hr0 := Int.le_refl (CtPlain.rng t.frm t.til t.slip t.reach p).1
                have e1 : max t.frm (p + t.slip - t.reach) = (CtPlain.rng t.frm t.til t.slip t.reach p).1 := rfl
                have e2 : min t.til (p - t.slip + t.reach) = (CtPlain.rng t.frm t.til t.slip t.reach p).2 := rfl
                rw [e1, e2] at hb
                have rb1 : -10000000 ≤ (CtPlain.rng t.frm t.til t.slip t.reach p).1 ∧ (CtPlain.rng t.frm t.til t.slip t.reach p).1 ≤ 10000000 := by rw [← e1]; omega
                have rb2 : -10000000 ≤ (CtPlain.rng t.frm t.til t.slip t.reach p).2 ∧ (CtPlain.rng t.frm t.til t.slip t.reach p).2 ≤ 10000000 := by rw [← e2]; omega
                clear hr0 e1 e2 own hbt t0 t1 t2 t3 hp9 hBw hBr
                generalize CtPlain.rng t.frm t.til t.slip t.reach p = r at *
                have b0 : wc.cell? ⟨b, 0, none⟩ = some (.int .i64 r.1) := hb.cell 0
                have b1 : wc.cell? ⟨b, 1, none⟩ = some (.int .i64 r.2) := hb.cell 1
                have lb := hb.lt
                by_cases hskip : r.2 < r.1
                · go_wp2
                  go_roundw
                  case rel => exact ⟨m + 1, by omega, by go_num, by rw [hOS.out, put_skip hskip]; exact own1, hB1⟩
                  case measure => simp [intOf]; omega
                · have hskip' : r.1 ≤ r.2 := by omega
                  obtain ⟨A10, cap10, hv10, hn10, hc10⟩ := own_shape own1
                  subst hv10
                  rcases List.eq_nil_or_concat out with rfl | ⟨l, q, rfl⟩
                  · simp only [List.length_nil] at *
                    go_wp2_with fail
                    refine wp_region_b 14 (by kernel_rfl) (by kernel_rfl) ?_; simp only [List.take, List.drop]
                    repeat (first
                      | (apply StepsD.run
                         · go_simp
                           done
                         · intro w' hS K hK
                           have hc := (bcell hS).1
                           have hf := (bcell hS).2
                           have hz := hS.size
                           try simp at hz
                           go_simp
                           try go_bits
                           first
                             | exact hK _ hS
                             | exact hK _ (by repeat (first | (with_reducible exact Below.refl _ _) | (with_reducible assumption) | ((with_reducible refine Below.setCell ?_ ?_ _); rotate_left; · (first | exact Nat.le_refl _ | (simp; done) | (simp; omega) | omega)) | ((with_reducible refine Below.alloc ?_ ?_ _); rotate_left; · (first | exact Nat.le_refl _ | (simp; done) | (simp; omega) | omega)) | (with_reducible apply Below.drew) | (with_reducible apply below_drewN') | (refine Below.trans ?_ (Below.mono (by assumption) (by first | exact Nat.le_refl _ | (simp; done) | (simp; omega) | omega))) | exact Below.refl _ _ | assumption))
                         · simp [Act.put]
                           done)
                      | (apply StepsD.pass
                         · first | (go_simp; done) | rfl
                         · simp only [Act.put, List.setIfInBounds_toArray, List.set_cons_succ, List.set_cons_zero]
                           rfl))
                    refine StepsD.done ?_
                    intro w' hS; have hc := (bcell hS).1; have hf := (bcell hS).2; have hz := hS.size; (try simp at hz)
                    clear hc hf
                    have own2 := own_below own1 hS
                    have hb2 := hb.below hS lb
                    have hB2 := hB1.trans (hS.mono (Below.size hB1))
                    have hs2 := Below.size hB2
                    have b0' : w'.cell? ⟨b, 0, none⟩ = some (.int .i64 r.1) := hb2.cell 0
                    have b1' : w'.cell? ⟨b, 1, none⟩ = some (.int .i64 r.2) := hb2.cell 1
                    go_wp2_with (at_builtin; refine wpList_append_own _ rfl _ _ 50 rfl w3.heap.size 68 i0 (.agg #[.int .i64 0, .int .i64 0]) 2 16 Tryz.underlying50 hi iz0 iz1 iz2 rfl (by decide) _ _ _ rfl (own2.alloc _) ⟨w'.heap.size, 0, none⟩ 1 1 [.int .i64 r.1, .int .i64 r.2] rfl rfl ?c1A ?c2A ?c3A ?c4A ?c5A ?_)
                    case c1A =>
                      intro j u hu
                      rw [Addr.add_lit, Nat.zero_add, (Blk.new w' 68 #[.int .i64 r.1, .int .i64 r.2]).cell j, List.getElem?_toArray]
                      exact hu
                    case c2A => simp [Value.oneCell']
                    case c3A => unfold maxLen; omega
                    case c4A => omega
                    case c5A => simp; omega
                    intro v' w5 own5 hgrow _
                    have hB5 : Below w3.heap.size w3 w5 := below_own (hB2.alloc hs2 _) (Nat.le_refl _) (own2.alloc _) hgrow
                    go_wp2
                    go_roundw
                    case rel => exact ⟨m + 1, by omega, by go_num, by rw [hOS.out, put_nil hskip']; exact own5, hB5⟩
                    case measure => simp [intOf]; omega
                  · rw [List.concat_eq_append] at *
                    obtain ⟨g10, rfl, hg10, hg10l, hcs, hfz⟩ := hc10 (by simp)
                    have hq := hob.out q (by simp)
                    have hqc : wc.cell? ⟨g10, l.length * 2 + 1, none⟩ = some (.int .i64 q.2) := by
                      rw [hcs _ (by simp; omega)]
                      exact (rngsC_get (l ++ [q]) l.length q (by simp)).2
                    have hqf := hfz (l.length * 2 + 1)
                    have hll : (l ++ [q]).length = l.length + 1 := by simp
                    rw [hll] at own1 hn10
                    have hlm : l.length + 1 ≤ 1000000 := by have := hol.out; simp at this; omega
                    clear hcs hfz hc10
                    have k1 : (0 : Int) ≤ (l.length : Int) := by omega
                    have k2 : (l.length : Int) < (l.length : Int) + 1 := by omega
                    by_cases hj : r.1 ≤ q.2 + 1
                    · go_wp2_with fail
                      refine wp_region_b 14 (by kernel_rfl) (by kernel_rfl) ?_; simp only [List.take, List.drop]
                      repeat (first
                        | (apply StepsD.run
                           · go_simp
                             done
                           · intro w' hS K hK
                             have hc := (bcell hS).1
                             have hf := (bcell hS).2
                             have hz := hS.size
                             try simp at hz
                             go_simp
                             try go_bits
                             first
                               | exact hK _ hS
                               | exact hK _ (by repeat (first | (with_reducible exact Below.refl _ _) | (with_reducible assumption) | ((with_reducible refine Below.setCell ?_ ?_ _); rotate_left; · (first | exact Nat.le_refl _ | (simp; done) | (simp; omega) | omega)) | ((with_reducible refine Below.alloc ?_ ?_ _); rotate_left; · (first | exact Nat.le_refl _ | (simp; done) | (simp; omega) | omega)) | (with_reducible apply Below.drew) | (with_reducible apply below_drewN') | (refine Below.trans ?_ (Below.mono (by assumption) (by first | exact Nat.le_refl _ | (simp; done) | (simp; omega) | omega))) | exact Below.refl _ _ | assumption))
                           · simp [Act.put]
                             done)
                        | (apply StepsD.pass
                           · first | (go_simp; done) | rfl
                           · simp only [Act.put, List.setIfInBounds_toArray, List.set_cons_succ, List.set_cons_zero]
                             rfl))
                      refine StepsD.done ?_
                      intro w' hS; have hc := (bcell hS).1; have hf := (bcell hS).2; have hz := hS.size; (try simp at hz)
                      clear hc hf
                      have own2 := own_below own1 hS
                      have hb2 := hb.below hS lb
                      have hB2 := hB1.trans (hS.mono (Below.size hB1))
                      have hs2 := Below.size hB2
                      have b0' : w'.cell? ⟨b, 0, none⟩ = some (.int .i64 r.1) := hb2.cell 0
                      have b1' : w'.cell? ⟨b, 1, none⟩ = some (.int .i64 r.2) := hb2.cell 1
                      have lb2 := hb2.lt
                      have lg2 : g10 < w'.heap.size := by omega
                      have qc2 := (hS.cell (p := ⟨g10, l.length * 2 + 1, none⟩) hg10l).trans hqc
                      have qf2 := (hS.frozen (p := ⟨g10, l.length * 2 + 1, none⟩) hg10l).trans hqf
                      clear hqc hqf b0 b1
                      go_wp2_with fail
                      refine wp_region_b 14 (by kernel_rfl) (by kernel_rfl) ?_; simp only [List.take, List.drop]
                      repeat (first
                        | (apply StepsD.run
                           · go_simp
                             done
                           · intro w' hS K hK
                             have hc := (bcell hS).1
                             have hf := (bcell hS).2
                             have hz := hS.size
                             try simp at hz
                             go_simp
                             try go_bits
                             first
                               | exact hK _ hS
                               | exact hK _ (by repeat (first | (with_reducible exact Below.refl _ _) | (with_reducible assumption) | ((with_reducible refine Below.setCell ?_ ?_ _); rotate_left; · (first | exact Nat.le_refl _ | (simp; done) | (simp; omega) | omega)) | ((with_reducible refine Below.alloc ?_ ?_ _); rotate_left; · (first | exact Nat.le_refl _ | (simp; done) | (simp; omega) | omega)) | (with_reducible apply Below.drew) | (with_reducible apply below_drewN') | (refine Below.trans ?_ (Below.mono (by assumption) (by first | exact Nat.le_refl _ | (simp; done) | (simp; omega) | omega))) | exact Below.refl _ _ | assumption))
                           · simp [Act.put]
                             done)
                        | (apply StepsD.pass
                           · first | (go_simp; done) | rfl
                           · simp only [Act.put, List.setIfInBounds_toArray, List.set_cons_succ, List.set_cons_zero]
                             rfl))
                      refine StepsD.done ?_
                      intro w4 hS4
                      have own4 := (own_below own2 hS4).stored (l.length * 2 + 1) (.int .i64 (max q.2 r.2))
                      have qc4 := (hS4.cell (p := ⟨g10, l.length * 2 + 1, none⟩) lg2).trans qc2
                      have qf4 := (hS4.frozen (p := ⟨g10, l.length * 2 + 1, none⟩) lg2).trans qf2
                      have hB4' := hB2.trans (hS4.mono (Below.size hB2))
                      go_wp2
                      go_roundw
                      case rel => exact ⟨m + 1, by omega, by go_num, by rw [hOS.out, put_join hskip' hj, ← rngsC_set_last, show (l ++ [(q.1, max q.2 r.2)]).length = l.length + 1 by simp]; exact own4.1, hB4'.setCell hg10 _⟩
                      case measure => simp [intOf]; omega
                    · go_wp2_with fail
                      refine wp_region_b 14 (by kernel_rfl) (by kernel_rfl) ?_; simp only [List.take, List.drop]
                      repeat (first
                        | (apply StepsD.run
                           · go_simp
                             done
                           · intro w' hS K hK
                             have hc := (bcell hS).1
                             have hf := (bcell hS).2
                             have hz := hS.size
                             try simp at hz
                             go_simp
                             try go_bits
                             first
                               | exact hK _ hS
                               | exact hK _ (by repeat (first | (with_reducible exact Below.refl _ _) | (with_reducible assumption) | ((with_reducible refine Below.setCell ?_ ?_ _); rotate_left; · (first | exact Nat.le_refl _ | (simp; done) | (simp; omega) | omega)) | ((with_reducible refine Below.alloc ?_ ?_ _); rotate_left; · (first | exact Nat.le_refl _ | (simp; done) | (simp; omega) | omega)) | (with_reducible apply Below.drew) | (with_reducible apply below_drewN') | (refine Below.trans ?_ (Below.mono (by assumption) (by first | exact Nat.le_refl _ | (simp; done) | (simp; omega) | omega))) | exact Below.refl _ _ | assumption))
                           · simp [Act.put]
                             done)
                        | (apply StepsD.pass
                           · first | (go_simp; done) | rfl
                           · simp only [Act.put, List.setIfInBounds_toArray, List.set_cons_succ, List.set_cons_zero]
                             rfl))
                      refine StepsD.done ?_
                      intro w' hS; have hc := (bcell hS).1; have hf := (bcell hS).2; have hz := hS.size; (try simp at hz)
                      clear hc hf
                      have own2 := own_below own1 hS
                      have hb2 := hb.below hS lb
                      have hB2 := hB1.trans (hS.mono (Below.size hB1))
                      have hs2 := Below.size hB2
                      have b0' : w'.cell? ⟨b, 0, none⟩ = some (.int .i64 r.1) := hb2.cell 0
                      have b1' : w'.cell? ⟨b, 1, none⟩ = some (.int .i64 r.2) := hb2.cell 1
                      go_wp2_with (at_builtin; refine wpList_append_own _ rfl _ _ 50 rfl w3.heap.size 68 i0 (.agg #[.int .i64 0, .int .i64 0]) 2 16 Tryz.underlying50 hi iz0 iz1 iz2 rfl (by decide) _ _ _ rfl (own2.alloc _) ⟨w'.heap.size, 0, none⟩ 1 1 [.int .i64 r.1, .int .i64 r.2] rfl rfl ?c1B ?c2B ?c3B ?c4B ?c5B ?_)
                      case c1B =>
                        intro j u hu
                        rw [Addr.add_lit, Nat.zero_add, (Blk.new w' 68 #[.int .i64 r.1, .int .i64 r.2]).cell j, List.getElem?_toArray]
                        exact hu
                      case c2B => simp [Value.oneCell']
                      case c3B => unfold maxLen; omega
                      case c4B => omega
                      case c5B => simp; omega
                      intro v' w5 own5 hgrow _
                      have hB5 : Below w3.heap.size w3 w5 := below_own (hB2.alloc hs2 _) (Nat.le_refl _) (own2.alloc _) hgrow
                      go_wp2
                      go_roundw
                      case rel => exact ⟨m + 1, by omega, by go_num, by rw [hOS.out, put_far hskip' (by omega), rngsC_append (l ++ [q]), show (l ++ [q] ++ [r]).length = l.length + 1 + 1 by simp]; exact own5, hB5⟩
                      case measure => simp [intOf]; omega
            · obtain rfl : m = zs.length := by omega
              go_wp2
              go_ret2
              have hfin : outV t ((sortV zs).take zs.length) = scanV t zs := by
                rw [List.take_of_length_le (by rw [HL9.out]; exact Nat.le_refl _)]; rfl
              rw [hfin] at own
              exact ⟨_, by rw [HE.out]; rfl, by rw [HS.out]; exact own.mono (Below.size hB4), hB4.trans (hBr.mono (Below.size hB4))⟩
  · have h1 : (trackE t != 0) = true := by simpa using h0
    have HO : Hid (openE t zs = trackE t) := by unfold openE; rw [if_neg h0]; rfl
    have HS : Hid (scanR t zs = []) := by unfold scanR; rw [HO.out, if_neg h0]; rfl
    have H0 := Lib.hid h0; clear h0
    go_enter Tryz.func59, Tryz.ntmps59
    go_wp2_with fail
    refine (checkTrack_any t _).mono ?_
    rintro e w1 ⟨rfl, hB1⟩; obtain ⟨hc1, hf1⟩ := bcell hB1; have hz1 := hB1.size; (try simp at hz1)
    go_wp2
    go_ret2
    refine ⟨_, by rw [HO.out]; rfl, ?_, (by repeat (first | (with_reducible exact Below.refl _ _) | (with_reducible assumption) | ((with_reducible refine Below.setCell ?_ ?_ _); rotate_left; · (first | exact Nat.le_refl _ | (simp; done) | (simp; omega) | omega)) | ((with_reducible refine Below.alloc ?_ ?_ _); rotate_left; · (first | exact Nat.le_refl _ | (simp; done) | (simp; omega) | omega)) | (with_reducible apply Below.drew) | (with_reducible apply below_drewN') | (refine Below.trans ?_ (Below.mono (by assumption) (by first | exact Nat.le_refl _ | (simp; done) | (simp; omega) | omega))) | exact Below.refl _ _ | assumption))⟩
    rw [HS.out]
    exact ⟨rfl, .inl ⟨rfl, rfl⟩⟩
end Go.Proofs.YtmdbpkomanhpoaaGreatDoor
