/- Contract: the reference's amplitude of a cell. What is said of scans does not depend on where their data lie; a list of scans opened. -/
import Derived.Test.YtclpljbllnhhbaaGreatZeFgA
import Derived.Test.YtclpljbllnhhbaaGreatZeFdD
namespace Go.Proofs.YtclpljbllnhhbaaGreat
open Go.RowKit

theorem atV_take {l : List Sc} {k : Nat} (h : k < l.length) (r c : Int) : atV (l.take (k + 1)) r c = atS (atV (l.take k) r c) l[k] r c := by
  rw [List.take_succ_eq_append_getElem h, atV_snoc]
theorem inB_idx {s : Sc} (h : ScGood s) {r c : Int} (hi : inB s r c = true) : ∃ x : Nat, (r - s.row) * s.cols + (c - s.col) = x ∧ x < s.data.length ∧ datV s r c = s.data[x]?.getD 0 ∧ 0 ≤ (r - s.row) * s.cols ∧ (r - s.row) * s.cols ≤ 1000 ∧ 0 ≤ c - s.col ∧ c - s.col ≤ 24 ∧ 0 ≤ r - s.row ∧ r - s.row ≤ 24 := by
  simp [inB, wi] at hi
  obtain ⟨⟨a1, a2⟩, a3, a4⟩ := hi
  have h1 := h.rows
  have h2 := h.cols
  have h3 := h.len
  have m0 : 0 ≤ (r - s.row) * s.cols := Int.mul_nonneg (by omega) (by omega)
  have m1 : (r - s.row) * s.cols ≤ (s.rows - 1) * s.cols := Int.mul_le_mul_of_nonneg_right (by omega) (by omega)
  have m2 : (s.rows - 1) * s.cols = s.rows * s.cols - s.cols := by rw [Int.sub_mul]; omega
  have m3 : (r - s.row) * s.cols ≤ 24 * 24 := Int.mul_le_mul (by omega) (by omega) (by omega) (by omega)
  refine ⟨((r - s.row) * s.cols + (c - s.col)).toNat, by omega, by omega, rfl, m0, by omega, by omega, by omega, by omega, by omega⟩

set_option maxRecDepth 100000 in
set_option maxHeartbeats 4000000 in
theorem refAt_any (l : List Sc) (A : Option Addr) (cap B : Nat) (r c : Int) (w : World) (hl : ScOk l A B w) (hB : B ≤ w.heap.size) (hgood : Hid (∀ s ∈ l, ScGood s)) (hr : -1000000 ≤ r ∧ r ≤ 1000000) (hcc : -1000000 ≤ c ∧ c ≤ 1000000) :
    Calls Tryz.prog 10 #[.slice A l.length cap, .agg #[.int .i64 r, .int .i64 c]] w fun e w' => e = .returned (.int .i64 (atV l r c)) ∧ Below w.heap.size w w' := by
  have hn := hl.len
  have b3 := Blk.new w 39 #[.int .i64 r, .int .i64 c]
  have hBB : Below w.heap.size w (w.alloc (.cells #[.int .i64 r, .int .i64 c] 39)) := (by repeat (first | (with_reducible exact Below.refl _ _) | (with_reducible assumption) | ((with_reducible refine Below.setCell ?_ ?_ _); rotate_left; · (first | exact Nat.le_refl _ | (simp; done) | (simp; omega) | omega)) | ((with_reducible refine Below.alloc ?_ ?_ _); rotate_left; · (first | exact Nat.le_refl _ | (simp; done) | (simp; omega) | omega)) | (with_reducible apply Below.drew) | (with_reducible apply below_drewN') | (refine Below.trans ?_ (Below.mono (by assumption) (by first | exact Nat.le_refl _ | (simp; done) | (simp; omega) | omega))) | exact Below.refl _ _ | assumption))
  go_enter Tryz.func10, Tryz.ntmps10
  go_wp2
  generalize (w.alloc (.cells #[.int .i64 r, .int .i64 c] 39)) = W at *
  go_loopw [5, 6] (fun b i wr => ∃ k : Nat, k ≤ l.length ∧ i = .int .i64 k ∧ b = .int .i64 (atV (l.take k) r c) ∧ Blk wr w.heap.size 39 #[.int .i64 r, .int .i64 c] ∧ Below w.heap.size w wr) (fun _ i _ => l.length - (intOf i).toNat)
  case atStart => exact ⟨0, Nat.zero_le _, rfl, rfl, b3, hBB⟩
  case round =>
    clear b3 hBB
    obtain ⟨k, hk, rfl, rfl, b3, hBB⟩ := hrel
    obtain ⟨e0, e1, f3⟩ := blk2c b3
    have lb := b3.lt
    by_cases hlt : k < l.length
    · have hl' := hl.below hBB hB
      obtain ⟨g, o, hA, hg, c0, c1, c2, c3, c4⟩ := scCells hl'.row hlt
      have hmem := List.getElem_mem hlt
      have hG := hgood.out _ hmem
      have hdat := hl'.data _ hmem
      have hst := atV_take hlt r c
      have hIX := fun hi => inB_idx hG (r := r) (c := c) hi
      have hin : inB l[k] r c = (wi (r - l[k].row) 0 (l[k].rows - 1) && wi (c - l[k].col) 0 (l[k].cols - 1)) := rfl
      have g1 := hG.row
      have g2 := hG.col
      have g3 := hG.rows
      have g4 := hG.cols
      have HST : Hid ((inB l[k] r c = false → atV (l.take (k + 1)) r c = atV (l.take k) r c) ∧ (inB l[k] r c = true → atV (l.take (k + 1)) r c = max (atV (l.take k) r c) (datV l[k] r c))) := Lib.hid ⟨fun h => by rw [hst]; unfold atS; rw [h]; rfl, fun h => by rw [hst]; unfold atS; rw [h]; rfl⟩
      have HIN := Lib.hid hin
      have HIX := Lib.hid hIX
      clear hst hin hIX hG hmem
      generalize l[k] = s at *
      generalize atV (l.take k) r c = b at *
      subst hA
      cases h1 : wi (r - s.row) 0 (s.rows - 1)
      · have HE := Lib.hid (HST.out.1 (by rw [HIN.out, h1]; rfl))
        have H1 := Lib.hid h1; clear h1 HST HIX
        go_wp2_with fail
        go_quiet (fail)
        go_wp2_with (go_at_call 7; refine (bWithin_any _ _ _ _).mono ?_; rw [H1.out]; rintro e w1 ⟨rfl, rfl⟩)
        exact ⟨⟨k + 1, by omega, by go_num, by rw [HE.out], b3.drewN _, below_drewN' hBB _⟩, by simp [intOf]; omega⟩
      · cases h2 : wi (c - s.col) 0 (s.cols - 1)
        · have HE := Lib.hid (HST.out.1 (by rw [HIN.out, h1, h2]; rfl))
          have H1 := Lib.hid h1; have H2 := Lib.hid h2; clear h1 h2 HST HIX
          go_wp2_with fail
          go_quiet (fail)
          go_wp2_with (go_at_call 7; refine (bWithin_any _ _ _ _).mono ?_; (first | rw [H1.out] | rw [H2.out]); rintro e w1 ⟨rfl, rfl⟩)
          exact ⟨⟨k + 1, by omega, by go_num, by rw [HE.out], b3.drewN _, below_drewN' hBB _⟩, by simp [intOf]; omega⟩
        · have hi : inB s r c = true := by rw [HIN.out, h1, h2]; rfl
          have HE := Lib.hid (HST.out.2 hi)
          obtain ⟨x, hx, hxl, hdv, m0, m1, m2, m3, m4, m5⟩ := HIX.out hi
          obtain ⟨g2, o2, hA2, hg2, d0⟩ := intCell hdat hxl
          have HDV : Hid (datV s r c = s.data[x]) := Lib.hid (by rw [hdv, List.getElem?_eq_getElem hxl]; rfl)
          have H1 := Lib.hid h1; have H2 := Lib.hid h2; clear h1 h2 HST HIX hi hdv hdat
          rw [HDV.out] at HE
          generalize s.data[x] = dv at *
          generalize s.data.length = dl at *
          generalize s.dA = dA at *
          generalize s.dcap = dc at *
          subst hA2
          have hg2w : g2 < wr.heap.size := by have := Below.size hBB; omega
          have hxI : (x : Int) < (dl : Int) := by omega
          go_wp2_with fail
          go_quiet (fail)
          go_wp2_with (go_at_call 7; refine (bWithin_any _ _ _ _).mono ?_; (first | rw [H1.out] | rw [H2.out]); rintro e w1 ⟨rfl, rfl⟩)
          go_quiet (fail)
          go_wp2
          exact ⟨⟨k + 1, by omega, by go_num, by rw [HE.out], b3.drewN _, below_drewN' hBB _⟩, by simp [intOf]; omega⟩
    · obtain rfl : k = l.length := by omega
      rw [List.take_length]
      go_wp2
      go_ret
      exact ⟨rfl, hBB⟩
end Go.Proofs.YtclpljbllnhhbaaGreat

namespace Go.Proofs.YtclpljbllnhhbaaGreat
open Go.RowKit

theorem core_eq {s t : Sc} (h : s.core = t.core) : s.row = t.row ∧ s.col = t.col ∧ s.rows = t.rows ∧ s.cols = t.cols ∧ s.data = t.data := by
  unfold Sc.core at h
  simp only [Prod.mk.injEq] at h
  exact h
theorem core_len {l l' : List Sc} (h : l.map Sc.core = l'.map Sc.core) : l.length = l'.length := by have := congrArg List.length h; simpa using this
theorem atV_core {l l' : List Sc} (h : l.map Sc.core = l'.map Sc.core) : atV l = atV l' := by
  funext r c
  have key : ∀ (l l' : List Sc) (b : Int), l.map Sc.core = l'.map Sc.core → l.foldl (fun b s => atS b s r c) b = l'.foldl (fun b s => atS b s r c) b := by
    intro l
    induction l with
    | nil => intro l' b h; cases l' with
      | nil => rfl
      | cons => simp at h
    | cons s l ih =>
      intro l' b h
      cases l' with
      | nil => simp at h
      | cons t l' =>
        simp only [List.map_cons, List.cons.injEq] at h
        simp only [List.foldl_cons]
        have e : atS b s r c = atS b t r c := by
          obtain ⟨h1, h2, h3, h4, h5⟩ := core_eq h.1
          unfold atS inB datV; rw [h1, h2, h3, h4, h5]
        rw [e]; exact ih l' _ h.2
  exact key l l' (-1) h
/-- A copy of scans as the contracts want it. -/
theorem copiedS {w : World} {base : Nat} {v : Value} {l L : List Sc} (hc : L.map Sc.core = l.map Sc.core) (h : w.ownsRow base 32 5 v l.length (scsC L)) (he : ∀ s ∈ L, w.ownsRow base 3 1 (.slice s.dA s.data.length s.dcap) s.data.length (intsC s.data)) (hl : l.length ≤ 1000000000) (hs : ∀ s ∈ l, s.data.length ≤ 1000000000) :
    ∃ A c, v = .slice A L.length c ∧ ScOk L A w.heap.size w := by
  have hlen := core_len hc
  rw [← hlen] at h
  obtain ⟨A, c, rfl, hR, _, _⟩ := own_row2 h
  refine ⟨A, c, rfl, by omega, hR, fun s hs' => ?_, fun s hs' => ?_⟩
  · have : s.core ∈ l.map Sc.core := by rw [← hc]; exact List.mem_map_of_mem hs'
    obtain ⟨t, ht, e⟩ := List.mem_map.1 this
    have := (core_eq e).2.2.2.2
    rw [← this]; exact hs t ht
  · exact row_own (he s hs') (by simp [intsC])
end Go.Proofs.YtclpljbllnhhbaaGreat

namespace Go.Proofs.YtclpljbllnhhbaaGreat
open Go.ChangeShapes Go.WideShapes Go.ChangeAt Go.RowKit
theorem cellsScan : Tryz.prog.cellsOf 32 = 5 := by kernel_rfl
theorem cellsInts : Tryz.prog.cellsOf 30 = 1 := by kernel_rfl
section
variable {H : Type} {enc : TypeId × Value → H} {w : World} {base b0 : Nat} {spare : Nat → Bool} {held : Bool} {r : Reach} {v : Value} {d : DataW H} {ps : List MemPlace}
set_option maxRecDepth 4000 in
/-- Numbers. -/
theorem open_ints_ {fuel : Nat} {v : Value} {x : DataW H × List MemPlace} (h : DataW.trod enc Tryz.prog w base spare held fuel 30 [v] = some x) :
    ∃ A zs c, v = .slice A zs.length c ∧ (A = none → c = 0) ∧ Row w w.heap.size 1 A zs.length (intsC zs) ∧ (∀ p ∈ zs, I64 p) ∧ zs.length ≤ c ∧ c ≤ maxLen := by
  rcases Deep.open_slice Tryz.underlying30 h with ⟨h1, _⟩ | ⟨a, len, cap, m, n, D, Pl, h1, hb, hl, hm, hmm, _, hx⟩
  · simp at h1
    exact ⟨none, [], 0, h1, fun _ => rfl, Row.nil_, by simp, Nat.le_refl _, Nat.zero_le _⟩
  · have hv : v = .slice (some a) len cap := by simpa using h1
    have hlm : len ≤ m := by rw [hmm]; split <;> omega
    obtain ⟨F, hF⟩ := Deep.choose_lt (α := Int) (n := len) (p := fun i p => w.cell? (a.add i) = some (.int .i64 p) ∧ I64 p) (fun i hi => by
      obtain ⟨cs', c1, c2⟩ := hx i (by omega)
      rw [cells3, Nat.mul_one] at c1
      obtain ⟨z, hz, _, hw⟩ := DataW.trod_int Tryz.underlying3 c2
      subst hz
      have := (World.cells?_some c1).2.2 0 (by omega)
      refine ⟨z, ?_, bounds_i64 hw⟩
      have h0 : (a.add i).add 0 = a.add i := by unfold Addr.add; simp
      rw [h0] at this
      exact this)
    have hlen : ((List.range len).map F).length = len := by simp
    refine ⟨some a, (List.range len).map F, cap, by rw [hlen]; exact hv, (fun h => by cases h), ?_, fun p hp => ?_, by rw [hlen]; exact hl, hm⟩
    · refine ⟨by simp [intsC], fun hpos => ?_⟩
      rw [hlen] at hpos
      have h0 := (hF 0 hpos).1
      obtain ⟨g, o, s⟩ := a
      have hs : s = none := by
        cases s with
        | none => rfl
        | some s => unfold Addr.add at h0; simp [World.cell?] at h0; split at h0 <;> simp at h0
      subst hs
      refine ⟨g, o, rfl, ?_, fun j u hu => ?_⟩
      · have := World.block_lt_of_cell? _ _ h0
        rwa [block_of_add] at this
      · have hj : j < len := by
          have := (List.getElem?_eq_some_iff.1 hu).1
          simp [intsC] at this; exact this
        have hc := (hF j hj).1
        rw [Addr.add_lit] at hc
        rw [hc]
        simp [intsC, hj] at hu
        rw [hu]
    · obtain ⟨i, hi, rfl⟩ := List.mem_map.1 hp
      exact (hF i (List.mem_range.1 hi)).2
set_option maxRecDepth 4000 in
theorem open_scan_ {fuel : Nat} {cs : List Value} {x : DataW H × List MemPlace} (h : DataW.trod enc Tryz.prog w base spare held fuel 32 cs = some x) :
    ∃ s : Sc, cs = scC s ∧ (s.dA = none → s.dcap = 0) ∧ Row w w.heap.size 1 s.dA s.data.length (intsC s.data) ∧ s.data.length ≤ s.dcap ∧ s.dcap ≤ maxLen := by
  have ht := Tryz.underlying32
  obtain ⟨_, _, _, _, hlen, _, _⟩ := DataW.trod_struct ht h
  obtain ⟨n0, h0, _⟩ := field_int ht h 0 _ rfl cells3 (by rw [cellsScan]; decide) Tryz.underlying3
  obtain ⟨n1, h1, _⟩ := field_int ht h 1 _ rfl cells3 (by rw [cellsScan]; decide) Tryz.underlying3
  obtain ⟨n2, h2, _⟩ := field_int ht h 2 _ rfl cells3 (by rw [cellsScan]; decide) Tryz.underlying3
  obtain ⟨n3, h3, _⟩ := field_int ht h 3 _ rfl cells3 (by rw [cellsScan]; decide) Tryz.underlying3
  obtain ⟨v4, y4, m4, h4, h4'⟩ := field_one ht h 4 _ rfl cellsInts (by rw [cellsScan]; decide)
  obtain ⟨A, zs, c, hv, hA, hR, _, hn, hm⟩ := open_ints_ h4'
  have hl : cs.length = 5 := hlen.trans cellsScan
  refine ⟨⟨n0, n1, n2, n3, zs, A, c⟩, ?_, hA, hR, hn, hm⟩
  match cs, hl with
  | [c0, c1, c2, c3, c4], _ =>
    simp at h0 h1 h2 h3 h4
    rw [h0, h1, h2, h3, h4, hv]
set_option maxRecDepth 4000 in
/-- A list of scans. -/
theorem open_scans (hval : Value.okWide Tryz.prog w r b0 22 v) (hd : DataW.Trod enc Tryz.prog w base spare held 22 v d ps) :
    ∃ A l c, v = .slice A l.length c ∧ (A = none → c = 0) ∧ Row w w.heap.size 5 A l.length (scsC l) ∧ l.length ≤ c ∧ c ≤ maxLen ∧
      ∀ s ∈ l, (s.dA = none → s.dcap = 0) ∧ Row w w.heap.size 1 s.dA s.data.length (intsC s.data) ∧ s.data.length ≤ s.dcap ∧ s.dcap ≤ maxLen := by
  obtain ⟨A0, len0, cap0, rfl⟩ := okWide_slice Tryz.underlying22 hval
  obtain ⟨n0, h⟩ := hd
  have h' : DataW.trod enc Tryz.prog w base spare held n0 22 [.slice A0 len0 cap0] = some (d, ps) := h
  rcases Deep.open_slice Tryz.underlying22 h' with ⟨h1, _⟩ | ⟨a, len, cap, m, n, D, Pl, h1, hb, hl, hm, hmm, _, hx⟩
  · simp at h1
    obtain ⟨rfl, rfl, rfl⟩ := h1
    exact ⟨none, [], 0, rfl, fun _ => rfl, Row.nil_, Nat.le_refl _, Nat.zero_le _, by simp⟩
  · have hv : Value.slice A0 len0 cap0 = .slice (some a) len cap := by simpa using h1
    rw [hv]
    have hlm : len ≤ m := by rw [hmm]; split <;> omega
    letI : Inhabited Sc := ⟨⟨0, 0, 0, 0, [], none, 0⟩⟩
    obtain ⟨F, hF⟩ := Deep.choose_lt (α := Sc) (n := len) (p := fun i p => w.cells? base (a.add (i * 5)) 5 = some (scC p) ∧ (p.dA = none → p.dcap = 0) ∧ Row w w.heap.size 1 p.dA p.data.length (intsC p.data) ∧ p.data.length ≤ p.dcap ∧ p.dcap ≤ maxLen) (fun i hi => by
      obtain ⟨cs', c1, c2⟩ := hx i (by omega)
      obtain ⟨p, hp, hs⟩ := open_scan_ c2
      rw [cellsScan, hp] at c1
      exact ⟨p, c1, hs⟩)
    have hlen : ((List.range len).map F).length = len := by simp
    refine ⟨some a, (List.range len).map F, cap, by rw [hlen], (fun h => by cases h), ?_, by rw [hlen]; exact hl, hm, fun p hp => ?_⟩
    · refine ⟨scsC_length _, fun hpos => ?_⟩
      rw [hlen] at hpos
      have hcell : ∀ i, i < len → ∀ k, k < 5 → w.cell? (a.add (i * 5 + k)) = ((scC (F i)) : List Value)[k]? := fun i hi k hk => by
        have := (World.cells?_some (hF i hi).1).2.2 k hk
        rw [← Deep.add_add]; exact this
      have h0 := hcell 0 hpos 0 (by omega)
      obtain ⟨g, o, s⟩ := a
      have hs : s = none := by
        cases s with
        | none => rfl
        | some s => unfold Addr.add at h0; simp [World.cell?] at h0; split at h0 <;> simp at h0
      subst hs
      refine ⟨g, o, rfl, ?_, ?_⟩
      · have := World.block_lt_of_cell? _ _ h0
        rwa [block_of_add] at this
      · intro j u hu
        have hj : j < len * 5 := by
          have := (List.getElem?_eq_some_iff.1 hu).1
          rw [scsC_length, hlen] at this; exact this
        have hk : j / 5 < len := by omega
        have hg := scsC_get ((List.range len).map F) (j / 5) (F (j / 5)) (by simp [hk])
        have hc := hcell (j / 5) hk (j % 5) (Nat.mod_lt _ (by omega))
        have hjj : j / 5 * 5 + j % 5 = j := by omega
        rw [hjj, Addr.add_lit] at hc
        rw [hc]
        rcases (by omega : j % 5 = 0 ∨ j % 5 = 1 ∨ j % 5 = 2 ∨ j % 5 = 3 ∨ j % 5 = 4) with e | e | e | e | e <;> rw [e] at hjj ⊢
        · rw [← hjj] at hu; rw [Nat.add_zero] at hu; rw [hg.1] at hu; exact hu
        · rw [← hjj, hg.2.1] at hu; exact hu
        · rw [← hjj, hg.2.2.1] at hu; exact hu
        · rw [← hjj, hg.2.2.2.1] at hu; exact hu
        · rw [← hjj, hg.2.2.2.2] at hu; exact hu
    · obtain ⟨i, hi, rfl⟩ := List.mem_map.1 hp
      exact (hF i (List.mem_range.1 hi)).2
end
end Go.Proofs.YtclpljbllnhhbaaGreat
