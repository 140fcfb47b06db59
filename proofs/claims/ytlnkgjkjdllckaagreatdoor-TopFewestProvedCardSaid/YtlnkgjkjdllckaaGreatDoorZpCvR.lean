/- Contract: the first gap of some parts. -/
import Derived.Test.YtlnkgjkjdllckaaGreatDoorZpCvP
import Derived.Test.YtlnkgjkjdllckaaGreatDoorZpCvU
namespace Go.Proofs.YtlnkgjkjdllckaaGreatDoor
open Go.RowKit Go.Sort Go.Shelf

/-- The parts of some numbers, without those that are none. -/
def selG (ps : List GP) (ns : List Nat) : List GP := (ns.filterMap fun n => ps[n]?).filter fun p => !p.1.none
/-- The first gap of ascending parts behind a point. -/
def gapL (r : Int × Int) : List GP → (Int × Int × Int × Int) × Bool
  | [] => ((r.1, r.2, 1, 1), decide (r.1 < r.2))
  | p :: l => if r.1 * p.1.b < p.1.a * r.2 then ((r.1, r.2, p.1.a, p.1.b), true) else gapL (if r.1 * p.1.d < p.1.c * r.2 then (p.1.c, p.1.d) else r) l
def natsC (ns : List Nat) : List Value := ns.map fun (n : Nat) => Value.int .i64 (n : Int)
theorem natsC_upTo (n : Nat) : intsC (upTo_ n) = natsC (List.range n) := by simp [intsC, upTo_, natsC]
theorem natsC_get (ns : List Nat) (k : Nat) (h : k < ns.length) : (natsC ns)[k]? = some (.int .i64 (ns[k] : Nat)) := by simp [natsC, h]
theorem flatP_cells (l : List GP) (k : Nat) (h : k < l.length) : (l.flatMap encP)[k * 6]? = some (.int .i64 l[k].1.a) ∧ (l.flatMap encP)[k * 6 + 1]? = some (.int .i64 l[k].1.b) ∧ (l.flatMap encP)[k * 6 + 2]? = some (.int .i64 l[k].1.c) ∧ (l.flatMap encP)[k * 6 + 3]? = some (.int .i64 l[k].1.d) ∧ (l.flatMap encP)[k * 6 + 4]? = some (.bool l[k].1.none) ∧ (l.flatMap encP)[k * 6 + 5]? = some (.bool l[k].1.up) := by
  have e : ∀ i, i < 6 → (l.flatMap encP)[k * 6 + i]? = (encP l[k])[i]? := fun i hi => by
    rw [flat_get, show (k * 6 + i) / 6 = k by omega, show (k * 6 + i) % 6 = i by omega, List.getElem?_eq_getElem h]; rfl
  exact ⟨e 0 (by omega), e 1 (by omega), e 2 (by omega), e 3 (by omega), e 4 (by omega), e 5 (by omega)⟩
theorem gpCells {w : World} {B : Nat} {A : Option Addr} {l : List GP} (h : Row w B 6 A l.length (l.flatMap encP)) {k : Nat} (hk : k < l.length) :
    ∃ g o, A = some ⟨g, o, none⟩ ∧ g < B ∧ w.cell? ⟨g, o + k * 6, none⟩ = some (.int .i64 l[k].1.a) ∧ w.cell? ⟨g, o + k * 6 + 1, none⟩ = some (.int .i64 l[k].1.b) ∧ w.cell? ⟨g, o + k * 6 + 2, none⟩ = some (.int .i64 l[k].1.c) ∧
      w.cell? ⟨g, o + k * 6 + 3, none⟩ = some (.int .i64 l[k].1.d) ∧ w.cell? ⟨g, o + k * 6 + 4, none⟩ = some (.bool l[k].1.none) ∧ w.cell? ⟨g, o + k * 6 + 5, none⟩ = some (.bool l[k].1.up) := by
  obtain ⟨g, o, hA, hb, hc⟩ := h.2 (by omega)
  obtain ⟨g0, g1, g2, g3, g4, g5⟩ := flatP_cells l k hk
  exact ⟨g, o, hA, hb, hc _ _ g0, hc _ _ g1, hc _ _ g2, hc _ _ g3, hc _ _ g4, hc _ _ g5⟩
theorem selG_snoc (ps : List GP) (ns : List Nat) (m : Nat) (h : m < ns.length) (hk : ns[m] < ps.length) : selG ps (ns.take (m + 1)) = selG ps (ns.take m) ++ if ps[ns[m]].1.none = true then [] else [ps[ns[m]]] := by
  unfold selG
  rw [List.take_succ_eq_append_getElem h, List.filterMap_append, List.filter_append]
  congr 1
  simp only [List.filterMap_cons, List.getElem?_eq_getElem hk, List.filterMap_nil]
  cases hn : (ps[ns[m]]).1.none <;> simp [hn]
theorem selG_len (ps : List GP) (ns : List Nat) : (selG ps ns).length ≤ ns.length :=
  Nat.le_trans (List.length_filter_le _ _) (List.length_filterMap_le _ _)
theorem cmpI_one {x y : Int} (h : y < x) : cmpI x y = 1 := by unfold cmpI; rw [if_neg (by omega), if_pos h]
theorem cmpI_le {x y : Int} (h : ¬ y < x) : cmpI x y ≤ 0 := by
  unfold cmpI
  split
  · omega
  · first | exact Int.le_refl 0 | (split <;> omega)
/-- What gap tells. -/
def gapC (r : (Int × Int × Int × Int) × Bool) : Value := .tuple #[.agg #[.int .i64 r.1.1, .int .i64 r.1.2.1, .int .i64 r.1.2.2.1, .int .i64 r.1.2.2.2], .bool r.2]
theorem Row.own {w : World} {base e size n : Nat} {v : Value} {xs : List Value} (h : w.ownsRow base e size v n xs) : ∃ A cap, v = .slice A n cap ∧ Row w w.heap.size size A n xs := by
  obtain ⟨A, cap, rfl, _, hc⟩ := own_shape h
  refine ⟨A, cap, rfl, h.1, fun hn => ?_⟩
  obtain ⟨g, rfl, _, hg, hcs, _⟩ := hc hn
  refine ⟨g, 0, rfl, hg, fun j u hu => ?_⟩
  have hj : j < n * size := by rw [← h.1]; exact (List.getElem?_eq_some_iff.1 hu).1
  rw [Nat.zero_add, hcs j hj, hu]

theorem only_set4 {a w : World} {g : Nat} {row : Option Nat} (h : a.grownBy w row) (hr : row = some g) (u0 u1 u2 u3 : Value) : a.grownBy ((((w.setCell ⟨g, 0, none⟩ u0).setCell ⟨g, 1, none⟩ u1).setCell ⟨g, 2, none⟩ u2).setCell ⟨g, 3, none⟩ u3) row := by
  subst hr
  exact only_setCell (only_setCell (only_setCell (only_setCell h (.inl rfl) _) (.inl rfl) _) (.inl rfl) _) (.inl rfl) _
theorem sort_own (base : Nat) (v : Value) (l : List GP) (w : World) (h : w.ownsRow base 89 6 v l.length (l.flatMap encP)) (hl : l.length ≤ 1000000) :
    Calls Tryz.prog 47 #[v, .func (.func 48) #[] #[]] w fun e w' => e = .returned (.tuple #[]) ∧
      ∃ l' : List GP, l'.Perm l ∧ l'.Pairwise (fun x y => x.1.a * y.1.b ≤ y.1.a * x.1.b) ∧ w'.ownsRow base 89 6 v l'.length (l'.flatMap encP) ∧ w.grownBy w' v.ownBlock := by
  have h' := h
  rcases h.2 with ⟨rfl, h0⟩ | ⟨g, cap, cur, rfl, _⟩
  · have h0' := List.eq_nil_of_length_eq_zero h0
    subst h0'
    refine (AnyF.slices_SortFunc_none Tryz.sortPart none 0 _ w).mono ?_
    rintro e w' ⟨he, rfl⟩
    exact ⟨he, [], List.Perm.refl _, List.Pairwise.nil, h', World.grownBy.refl _ _⟩
  · refine (sortP_any base g cap l w h' hl).mono ?_
    rintro e w' ⟨he, l', hp, hs, ho, hg⟩
    exact ⟨he, l', hp, hs, by rw [hp.length_eq]; exact ho, hg⟩

set_option maxRecDepth 100000 in
set_option maxHeartbeats 2000000 in
theorem gap_any (ps : List GP) (ns : List Nat) (A : Option Addr) (c : Nat) (A' : Option Addr) (c' : Nat) (w : World) (_h1 : ps.length ≤ 100000) (h2 : ns.length ≤ 100000) (hns : ∀ n ∈ ns, n < ps.length) (hR : Row w w.heap.size 6 A ps.length (ps.flatMap encP)) (hN : Row w w.heap.size 1 A' ns.length (natsC ns)) (hE : Ends w) :
    Calls Tryz.prog 23 #[.slice A ps.length c, .slice A' ns.length c'] w fun e w' => ∃ l' : List GP, l'.Perm (selG ps ns) ∧ l'.Pairwise (fun x y => x.1.a * y.1.b ≤ y.1.a * x.1.b) ∧ e = .returned (gapC (gapL (0, 1) l')) ∧ Below w.heap.size w w' := by
  obtain ⟨i0, hi, hz0, hz1, hz2⟩ := info_parts infoPart
  have hE1 := Lib.hid hE; clear hE
  have HNS := Lib.hid hns; clear hns
  go_enter Tryz.func23, Tryz.ntmps23
  go_wp2
  go_loopw [6, 14] (fun v i wr => ∃ m : Nat, m ≤ ns.length ∧ i = .int .i64 m ∧ wr.ownsRow (w.heap.size + 1) 89 6 v (selG ps (ns.take m)).length ((selG ps (ns.take m)).flatMap encP) ∧ Blk wr w.heap.size 37 #[.int .i64 0, .int .i64 0, .int .i64 0, .int .i64 0] ∧ Below w.heap.size w wr) (fun _ i _ => ns.length - (intOf i).toNat)
  case atStart => exact ⟨0, Nat.zero_le _, rfl, ⟨rfl, .inl ⟨rfl, rfl⟩⟩, Blk.new w _ _, Below.alloc (Below.refl _ _) (Nat.le_refl _) _⟩
  case round =>
    obtain ⟨m, hm, rfl, hown, b1, hBB⟩ := hrel
    have hsz := Below.size hBB
    have lb := b1.lt
    by_cases hlt : m < ns.length
    · have hk := HNS.out _ (List.getElem_mem hlt)
      obtain ⟨g, o, hA, hg, c0, c1, c2, c3, c4, c5⟩ := gpCells (hR.below hBB (Nat.le_refl _)) hk
      obtain ⟨g', o', hA', hg', hcs⟩ := (hN.below hBB (Nat.le_refl _)).2 (by omega)
      have d0 := hcs m _ (natsC_get ns m hlt)
      subst hA hA'
      clear hcs
      have HS := Lib.hid (selG_snoc ps ns m hlt hk)
      have hml : (selG ps (ns.take m)).length ≤ 100000 := by have := selG_len ps (ns.take m); simp at this; omega
      have k0 : (0 : Int) ≤ (m : Int) := by omega
      have k1 : (m : Int) < (ns.length : Int) := by omega
      have k2 : (0 : Int) ≤ (ns[m] : Int) := by omega
      have k3 : ((ns[m] : Nat) : Int) < (ps.length : Int) := by omega
      have lg : g < wr.heap.size := by omega
      have lg' : g' < wr.heap.size := by omega
      cases hn : (ps[ns[m]]).1.none
      · rw [hn] at c4 HS
        simp only [Bool.false_eq_true, if_false] at HS
        go_wp2_with (at_builtin; refine wpList_append_own _ rfl _ _ 76 rfl (w.heap.size + 1) 89 i0 (.agg #[.int .i64 0, .int .i64 0, .int .i64 0, .int .i64 0, .bool false, .bool false]) 6 40 Tryz.underlying76 hi hz0 hz1 hz2 rfl (by decide) _ _ _ rfl (hown.alloc _) ⟨wr.heap.size, 0, none⟩ 1 1 (encP ps[ns[m]]) rfl rfl ?c1A ?c2A ?c3A ?c4A ?c5A ?_)
        case c1A =>
          intro j u hu
          have hb := Blk.new wr 89 #[.int .i64 (ps[ns[m]]).1.a, .int .i64 (ps[ns[m]]).1.b, .int .i64 (ps[ns[m]]).1.c, .int .i64 (ps[ns[m]]).1.d, .bool false, .bool (ps[ns[m]]).1.up]
          have hu' : (encP (ps[ns[m]]))[j]? = some u := hu
          unfold encP at hu'
          rw [hn] at hu'
          rw [Addr.add_lit, Nat.zero_add, hb.cell j, List.getElem?_toArray]
          exact hu'
        case c2A => exact encP_one _
        case c3A => unfold maxLen; omega
        case c4A => omega
        case c5A => simp; omega
        intro v' w5 own5 hgrow _
        have hownA := hown.alloc (.cells #[.int .i64 (ps[ns[m]]).1.a, .int .i64 (ps[ns[m]]).1.b, .int .i64 (ps[ns[m]]).1.c, .int .i64 (ps[ns[m]]).1.d, .bool false, .bool (ps[ns[m]]).1.up] 89 (0, 0))
        have hB5 : Below w.heap.size w w5 := below_own (hBB.alloc hsz _) (Nat.le_succ _) hownA hgrow
        have b5 := (b1.alloc _).grown hgrow (own_ne hownA (.inl (by omega)))
        go_wp2
        go_roundw
        case rel => exact ⟨m + 1, by omega, by go_num, by rw [HS.out, List.flatMap_append, show (selG ps (ns.take m) ++ [ps[ns[m]]]).length = (selG ps (ns.take m)).length + 1 by simp]; simpa using own5, b5, hB5⟩
        case measure => simp [intOf]; omega
      · rw [hn] at c4 HS
        simp only [if_true, List.append_nil] at HS
        go_wp2
        go_roundw
        case rel => exact ⟨m + 1, by omega, by go_num, by rw [HS.out]; exact hown, b1, hBB⟩
        case measure => simp [intOf]; omega
    · obtain rfl : m = ns.length := by omega
      rw [List.take_length] at hown
      have hll := selG_len ps ns
      obtain ⟨l0, HL0⟩ : ∃ l0, Hid (l0 = selG ps ns) := ⟨_, Lib.hid rfl⟩
      rw [← HL0.out] at hown hll
      go_wp2_with fail
      refine (sort_own _ _ l0 _ hown (by omega)).mono ?_
      rintro e w2 ⟨rfl, l', hp, hs, own2, hg2⟩
      have b2 := b1.grown hg2 (own_ne hown (.inl (by omega)))
      have hB2 : Below w.heap.size w w2 := below_own hBB (Nat.le_succ _) hown hg2
      have hE2 := Lib.hid (hE1.out.below hB2)
      obtain ⟨A2, cap2, rfl, hrow⟩ := Row.own own2
      have hl' : l'.length ≤ 100000 := by rw [hp.length_eq]; omega
      have HP := Lib.hid hp; have HS := Lib.hid hs
      have l2 := b2.lt
      have hs2 := Below.size hB2
      clear hp hs hown hg2 own2 b1 hBB hsz lb hlt hm
      obtain ⟨eb0, eb1, ee0, ee1⟩ := hE2.out
      go_wp2
      go_loopw [37] (fun i wr => ∃ m : Nat, ∃ r : Int × Int, m ≤ l'.length ∧ i = .int .i64 m ∧ NN r.1 ∧ NN r.2 ∧ Hid (gapL (0, 1) l' = gapL r (l'.drop m)) ∧ Blk wr w2.heap.size 35 #[.int .i64 r.1, .int .i64 r.2] ∧ Below w2.heap.size w2 wr) (fun i _ => l'.length - (intOf i).toNat)
      case atStart => exact ⟨0, (0, 1), Nat.zero_le _, rfl, by simp [NN], by simp [NN], rfl, Blk.new w2 _ _, (Below.refl _ _).alloc (Nat.le_refl _) _⟩
      case round =>
        obtain ⟨m, r, hm, rfl, hr1, hr2, HG, bR, hBr⟩ := hrel
        by_cases hlt : m < l'.length
        · obtain ⟨g, o, hA, hg, c0, c1, c2, c3, c4, c5⟩ := gpCells (hrow.below hBr (Nat.le_refl _)) hlt
          subst hA
          have hdr : l'.drop m = l'[m] :: l'.drop (m + 1) := List.drop_eq_getElem_cons hlt
          rw [hdr] at HG
          have hsr := Below.size hBr
          have k0 : (0 : Int) ≤ (m : Int) := by omega
          have k1 : (m : Int) < (l'.length : Int) := by omega
          have lg : g < wr.heap.size := by omega
          have lR := bR.lt
          have b4 := b2.below hBr l2
          have hBB := hB2.trans (hBr.mono hs2)
          obtain ⟨hpa, hpb, hpc, hpd⟩ := (l'[m]).2.1
          have HGT := Lib.hid (show gapL r (l'[m] :: l'.drop (m + 1)) = if r.1 * (l'[m]).1.b < (l'[m]).1.a * r.2 then ((r.1, r.2, (l'[m]).1.a, (l'[m]).1.b), true) else gapL (if r.1 * (l'[m]).1.d < (l'[m]).1.c * r.2 then ((l'[m]).1.c, (l'[m]).1.d) else r) (l'.drop (m + 1)) from rfl)
          obtain ⟨r1, r2⟩ := r
          simp only at hr1 hr2 bR HGT HG
          clear hdr hrow
          generalize (l'[m]).1.a = pa at *
          generalize (l'[m]).1.b = pb at *
          generalize (l'[m]).1.c = pc at *
          generalize (l'[m]).1.d = pd at *
          generalize (l'[m]).1.none = pn at *
          generalize (l'[m]).1.up = pu at *
          obtain ⟨x0, x1, xf⟩ := (show wr.cell? ⟨w2.heap.size, 0, none⟩ = some (.int .i64 r1) ∧ wr.cell? ⟨w2.heap.size, 1, none⟩ = some (.int .i64 r2) ∧ ∀ i, wr.frozen? ⟨w2.heap.size, i, none⟩ = false from ⟨bR.cell 0, bR.cell 1, bR.frozen⟩)
          by_cases hgt : r1 * pb < pa * r2
          · have e1 := cmpI_one hgt
            go_wp2_with fail
            refine (compare_any pa pb r1 r2 hpa hpb hr1 hr2 _).mono ?_
            rw [e1]
            rintro e w1 ⟨rfl, hB1⟩; obtain ⟨hc1, hf1⟩ := bcell hB1; have hz1 := hB1.size; (try simp at hz1)
            have bp := Blk.below (Blk.new wr 89 #[.int .i64 pa, .int .i64 pb, .int .i64 pc, .int .i64 pd, .bool pn, .bool pu]) hB1 (by simp)
            have bR1 := (bR.alloc (.cells #[.int .i64 pa, .int .i64 pb, .int .i64 pc, .int .i64 pd, .bool pn, .bool pu] 89 (0, 0))).below hB1 (by simp; omega)
            have b41 := (b4.alloc (.cells #[.int .i64 pa, .int .i64 pb, .int .i64 pc, .int .i64 pd, .bool pn, .bool pu] 89 (0, 0))).below hB1 (by simp; omega)
            have hBw : Below w.heap.size w w1 := (by repeat (first | (with_reducible exact Below.refl _ _) | (with_reducible assumption) | ((with_reducible refine Below.setCell ?_ ?_ _); rotate_left; · (first | exact Nat.le_refl _ | (simp; done) | (simp; omega) | omega)) | ((with_reducible refine Below.alloc ?_ ?_ _); rotate_left; · (first | exact Nat.le_refl _ | (simp; done) | (simp; omega) | omega)) | (with_reducible apply Below.drew) | (with_reducible apply below_drewN') | (refine Below.trans ?_ (Below.mono (by assumption) (by first | exact Nat.le_refl _ | (simp; done) | (simp; omega) | omega))) | exact Below.refl _ _ | assumption))
            have y0 := bR1.cell 0; have y1 := bR1.cell 1
            have y2 := bp.cell 0; have y3 := bp.cell 1
            have lR1 := bR1.lt; have lp1 := bp.lt; have l41 := b41.lt
            simp at y0 y1 y2 y3
            obtain ⟨d0, d1, d2, d3, hf4⟩ := blk4 b41
            have HN := Lib.hid hgt
            clear x0 x1 xf hc1 hf1
            have e6 := Blk.set4 b41 (.int .i64 r1) (.int .i64 r2) (.int .i64 pa) (.int .i64 pb)
            obtain ⟨z0, z1, z2, z3, _⟩ := blk4 e6
            go_wp2
            refine bodyPost_ret (v := gapC ((r1, r2, pa, pb), true)) ?_ rfl ⟨l', by rw [← HL0.out]; exact HP.out, HS.out, by rw [HG.out, HGT.out, if_pos HN.out], Below.set4 hBw (by omega)⟩
            simp [results, Tryz.results23, go_sem, z0, z1, z2, z3, gapC]
          · obtain ⟨cc, hcc, hc0⟩ : ∃ cc, cmpI (pa * r2) (r1 * pb) = cc ∧ cc ≤ 0 := ⟨_, rfl, cmpI_le hgt⟩
            go_wp2_with fail
            refine (compare_any pa pb r1 r2 hpa hpb hr1 hr2 _).mono ?_
            rw [hcc]
            rintro e w1 ⟨rfl, hB1⟩; obtain ⟨hc1, hf1⟩ := bcell hB1; have hz1 := hB1.size; (try simp at hz1)
            have bp := Blk.below (Blk.new wr 89 #[.int .i64 pa, .int .i64 pb, .int .i64 pc, .int .i64 pd, .bool pn, .bool pu]) hB1 (by simp)
            have bR1 := (bR.alloc (.cells #[.int .i64 pa, .int .i64 pb, .int .i64 pc, .int .i64 pd, .bool pn, .bool pu] 89 (0, 0))).below hB1 (by simp; omega)
            have hBw : Below w2.heap.size w2 w1 := (by repeat (first | (with_reducible exact Below.refl _ _) | (with_reducible assumption) | ((with_reducible refine Below.setCell ?_ ?_ _); rotate_left; · (first | exact Nat.le_refl _ | (simp; done) | (simp; omega) | omega)) | ((with_reducible refine Below.alloc ?_ ?_ _); rotate_left; · (first | exact Nat.le_refl _ | (simp; done) | (simp; omega) | omega)) | (with_reducible apply Below.drew) | (with_reducible apply below_drewN') | (refine Below.trans ?_ (Below.mono (by assumption) (by first | exact Nat.le_refl _ | (simp; done) | (simp; omega) | omega))) | exact Below.refl _ _ | assumption))
            have y0 := bR1.cell 0; have y1 := bR1.cell 1
            have y2 := bp.cell 2; have y3 := bp.cell 3
            have lR1 := bR1.lt; have lp1 := bp.lt
            simp at y0 y1 y2 y3
            clear x0 x1 xf hc1 hf1
            have HN := Lib.hid hgt
            by_cases hgt2 : r1 * pd < pc * r2
            · have e2 := cmpI_one hgt2
              have HN2 := Lib.hid hgt2
              go_wp2_with fail
              refine (compare_any pc pd r1 r2 hpc hpd hr1 hr2 _).mono ?_
              rw [e2]
              rintro e w3 ⟨rfl, hB3⟩
              have bp3 := bp.below hB3 lp1
              have bR3 := bR1.below hB3 lR1
              have hB4 := hBw.trans (hB3.mono (Below.size hBw))
              have u2 := bp3.cell 2; have u3 := bp3.cell 3
              have lR3 := bR3.lt; have lp3 := bp3.lt
              have u0 := bR3.cell 0; have u1 := bR3.cell 1
              simp at u0 u1 u2 u3
              have hfR := bR3.frozen
              clear y0 y1 y2 y3
              go_wp2
              go_roundw
              case rel => exact ⟨m + 1, (pc, pd), by omega, by go_num, hpc, hpd, Lib.hid (by rw [HG.out, HGT.out, if_neg (by have := HN.out; omega), if_pos HN2.out]), (bR3.set_ 0 _).set_ 1 _, (hB4.setCell (Nat.le_refl _) _).setCell (Nat.le_refl _) _⟩
              case measure => simp [intOf]; omega
            · have HN2 := Lib.hid hgt2
              obtain ⟨dd, hdd, hd0⟩ : ∃ dd, cmpI (pc * r2) (r1 * pd) = dd ∧ dd ≤ 0 := ⟨_, rfl, cmpI_le hgt2⟩
              go_wp2_with fail
              refine (compare_any pc pd r1 r2 hpc hpd hr1 hr2 _).mono ?_
              rw [hdd]
              rintro e w3 ⟨rfl, hB3⟩
              have bR3 := bR1.below hB3 lR1
              have hB4 := hBw.trans (hB3.mono (Below.size hBw))
              clear y0 y1 y2 y3
              go_wp2
              go_roundw
              case rel => exact ⟨m + 1, (r1, r2), by omega, by go_num, hr1, hr2, Lib.hid (by rw [HG.out, HGT.out, if_neg (by have := HN.out; omega), if_neg (by have := HN2.out; omega)]), bR3, hB4⟩
              case measure => simp [intOf]; omega
        · obtain rfl : m = l'.length := by omega
          rw [List.drop_length] at HG
          have hsr := Below.size hBr
          have lR := bR.lt
          have b4 := b2.below hBr l2
          have hBB := hB2.trans (hBr.mono hs2)
          obtain ⟨r1, r2⟩ := r
          simp only at hr1 hr2 bR
          obtain ⟨fb0, fb1, fe0, fe1⟩ := hE2.out.below hBr
          obtain ⟨x0, x1, xf⟩ := (show wr.cell? ⟨w2.heap.size, 0, none⟩ = some (.int .i64 r1) ∧ wr.cell? ⟨w2.heap.size, 1, none⟩ = some (.int .i64 r2) ∧ ∀ i, wr.frozen? ⟨w2.heap.size, i, none⟩ = false from ⟨bR.cell 0, bR.cell 1, bR.frozen⟩)
          have HF : Hid (gapL (0, 1) l' = ((r1, r2, 1, 1), decide (r1 < r2))) := Lib.hid (by rw [HG.out]; rfl)
          have hcc := cmpI_neg (r1 * 1) (1 * r2)
          simp only [Int.mul_one, Int.one_mul] at hcc
          have l1 : 1 < wr.heap.size := World.block_lt_of_cell? _ _ fe0
          have n1 : ¬ w2.heap.size = w.heap.size := by omega
          have n2 : ¬ (1 : Nat) = w.heap.size := by have := World.block_lt_of_cell? _ _ hE1.out.e0; simp at this; omega
          have l4 := b4.lt
          obtain ⟨d0, d1, d2, d3, hf4⟩ := blk4 b4
          have HBB := Lib.hid hBB
          have hws := Below.size hBB
          clear hE2 hBr hB2 b2 l2 HG hBB hs2 hsr hN hR hll hrow _h1 h2 hm hl'
          go_wp2_with fail
          generalize hW : wr = W at *
          generalize hn0 : w.heap.size = n0 at *
          generalize hn9 : w2.heap.size = n9 at *
          obtain ⟨rowN0, hrow0⟩ : ∃ r : Option Nat, r = some n0 := ⟨_, rfl⟩
          have m1 : some n9 ≠ rowN0 := by rw [hrow0]; simpa using n1
          have m2 : some 1 ≠ rowN0 := by rw [hrow0]; simpa using n2
          refine wp_region_w (fun w' => World.grownBy _ w' rowN0) (by kernel_rfl) (only_drew (World.grownBy.refl _ _)) ?_
          refine wpW_det (t' := ?ct0R6) 0 (by rfl) (by kernel_rfl) (NQ_free _) (by kernel_rfl) ?cw0R6 ?ch0R6 ?ca0R6 (Eq.refl _) ?cH0R6
          case cw0R6 => (go_simp; done)
          case ch0R6 =>
            intro ds w' hS K hK
            have hc := (ocell hS).1
            have hf := (ocell hS).2
            have hz := hS.size
            try simp at hz
            go_simp
            try go_bits
            first
              | exact hK _ hS (Gr.refl _)
              | (go_at_call 32; (refine (compare_any r1 r2 1 1 hr1 hr2 (by omega) (by omega) _).mono ?_); rintro e w1 ⟨rfl, hB1⟩; obtain ⟨hc1, hf1⟩ := bcell hB1; have hz1 := hB1.size; (try simp at hz1); exact hK _ (only_trans hS (only_of_below hB1 _)) hB1)
              | fail
          case ca0R6 => (first | (simp [Act.put]; done) | (simp [Act.put, *]; done))
          try dsimp only
          refine wpW_det (t' := ?ct1R6) 1 (by rfl) (by kernel_rfl) (NQ_free _) (by kernel_rfl) ?cw1R6 ?ch1R6 ?ca1R6 (Eq.refl _) ?cH1R6
          case cw1R6 => (go_simp; done)
          case ch1R6 =>
            intro ds w' hS K hK
            have hc := (ocell hS).1
            have hf := (ocell hS).2
            have hz := hS.size
            try simp at hz
            go_simp
            try go_bits
            first
              | exact hK _ hS (Gr.refl _)
              | (go_at_call 32; (refine (compare_any r1 r2 1 1 hr1 hr2 (by omega) (by omega) _).mono ?_); rintro e w1 ⟨rfl, hB1⟩; obtain ⟨hc1, hf1⟩ := bcell hB1; have hz1 := hB1.size; (try simp at hz1); exact hK _ (only_trans hS (only_of_below hB1 _)) hB1)
              | fail
          case ca1R6 => (first | (simp [Act.put]; done) | (simp [Act.put, *]; done))
          try dsimp only
          refine wpW_det (t' := ?ct2R6) 2 (by rfl) (by kernel_rfl) (NQ_free _) (by kernel_rfl) ?cw2R6 ?ch2R6 ?ca2R6 (Eq.refl _) ?cH2R6
          case cw2R6 => (go_simp; done)
          case ch2R6 =>
            intro ds w' hS K hK
            have hc := (ocell hS).1
            have hf := (ocell hS).2
            have hz := hS.size
            try simp at hz
            go_simp
            try go_bits
            first
              | exact hK _ hS (Gr.refl _)
              | (go_at_call 32; (refine (compare_any r1 r2 1 1 hr1 hr2 (by omega) (by omega) _).mono ?_); rintro e w1 ⟨rfl, hB1⟩; obtain ⟨hc1, hf1⟩ := bcell hB1; have hz1 := hB1.size; (try simp at hz1); exact hK _ (only_trans hS (only_of_below hB1 _)) hB1)
              | fail
          case ca2R6 => (first | (simp [Act.put]; done) | (simp [Act.put, *]; done))
          try dsimp only
          refine wpW_det (t' := ?ct3R6) 3 (by rfl) (by kernel_rfl) (NQ_free _) (by kernel_rfl) ?cw3R6 ?ch3R6 ?ca3R6 (Eq.refl _) ?cH3R6
          case cw3R6 => (go_simp; done)
          case ch3R6 =>
            intro ds w' hS K hK
            have hc := (ocell hS).1
            have hf := (ocell hS).2
            have hz := hS.size
            try simp at hz
            go_simp
            try go_bits
            first
              | exact hK _ hS (Gr.refl _)
              | (go_at_call 32; (refine (compare_any r1 r2 1 1 hr1 hr2 (by omega) (by omega) _).mono ?_); rintro e w1 ⟨rfl, hB1⟩; obtain ⟨hc1, hf1⟩ := bcell hB1; have hz1 := hB1.size; (try simp at hz1); exact hK _ (only_trans hS (only_of_below hB1 _)) hB1)
              | fail
          case ca3R6 => (first | (simp [Act.put]; done) | (simp [Act.put, *]; done))
          try dsimp only
          refine wpW_det (t' := ?ct4R6) 4 (by rfl) (by kernel_rfl) (NQ_free _) (by kernel_rfl) ?cw4R6 ?ch4R6 ?ca4R6 (Eq.refl _) ?cH4R6
          case cw4R6 => (go_simp; done)
          case ch4R6 =>
            intro ds w' hS K hK
            have hc := (ocell hS).1
            have hf := (ocell hS).2
            have hz := hS.size
            try simp at hz
            go_simp
            try go_bits
            first
              | exact hK _ hS (Gr.refl _)
              | (go_at_call 32; (refine (compare_any r1 r2 1 1 hr1 hr2 (by omega) (by omega) _).mono ?_); rintro e w1 ⟨rfl, hB1⟩; obtain ⟨hc1, hf1⟩ := bcell hB1; have hz1 := hB1.size; (try simp at hz1); exact hK _ (only_trans hS (only_of_below hB1 _)) hB1)
              | fail
          case ca4R6 => (first | (simp [Act.put]; done) | (simp [Act.put, *]; done))
          try dsimp only
          refine wpW_det (t' := ?ct5R6) 5 (by rfl) (by kernel_rfl) (NQ_free _) (by kernel_rfl) ?cw5R6 ?ch5R6 ?ca5R6 (Eq.refl _) ?cH5R6
          case cw5R6 => (go_simp; done)
          case ch5R6 =>
            intro ds w' hS K hK
            have hc := (ocell hS).1
            have hf := (ocell hS).2
            have hz := hS.size
            try simp at hz
            go_simp
            try go_bits
            first
              | exact hK _ hS (Gr.refl _)
              | (go_at_call 32; (refine (compare_any r1 r2 1 1 hr1 hr2 (by omega) (by omega) _).mono ?_); rintro e w1 ⟨rfl, hB1⟩; obtain ⟨hc1, hf1⟩ := bcell hB1; have hz1 := hB1.size; (try simp at hz1); exact hK _ (only_trans hS (only_of_below hB1 _)) hB1)
              | fail
          case ca5R6 => (first | (simp [Act.put]; done) | (simp [Act.put, *]; done))
          try dsimp only
          refine wpW_det (t' := ?ct6R6) 6 (by rfl) (by kernel_rfl) (NQ_free _) (by kernel_rfl) ?cw6R6 ?ch6R6 ?ca6R6 (Eq.refl _) ?cH6R6
          case cw6R6 => (go_simp; done)
          case ch6R6 =>
            intro ds w' hS K hK
            have hc := (ocell hS).1
            have hf := (ocell hS).2
            have hz := hS.size
            try simp at hz
            go_simp
            try go_bits
            first
              | exact hK _ hS (Gr.refl _)
              | (go_at_call 32; (refine (compare_any r1 r2 1 1 hr1 hr2 (by omega) (by omega) _).mono ?_); rintro e w1 ⟨rfl, hB1⟩; obtain ⟨hc1, hf1⟩ := bcell hB1; have hz1 := hB1.size; (try simp at hz1); exact hK _ (only_trans hS (only_of_below hB1 _)) hB1)
              | fail
          case ca6R6 => (first | (simp [Act.put]; done) | (simp [Act.put, *]; done))
          try dsimp only
          refine wpW_branch [7] (by kernel_rfl) (by simp) ?_
          intro w1 hg1 hS1
          refine each_cons ?_ each_nil
          have b41 := Blk.gr b4.drew hg1
          obtain ⟨v0, v1, v2, v3, vf⟩ := blk4 b41
          refine wpOp_go (by rfl) (Eq.refl _) (by go_simp; done) ?_
          intro K hK
          go_simp
          try simp only [Act.put]
          (with_reducible refine hK _ _ (only_set4 hS1 hrow0 _ _ _ _) ?_)
          clear hK K
          have b42 := Blk.set4 b41 (.int .i64 r1) (.int .i64 r2) (.int .i64 1) (.int .i64 1)
          have hBw := Below.set4 (u0 := .int .i64 r1) (u1 := .int .i64 r2) (u2 := .int .i64 1) (u3 := .int .i64 1) (Below.trans (Below.drew HBB.out) (Below.mono hg1 hws)) (Nat.le_refl n0)
          refine wpW_branch [8] (by kernel_rfl) (by simp) ?_
          intro w2' hg2 hS2
          refine each_cons ?_ each_nil
          have b43 := Blk.gr b42 hg2
          have hBx := Below.trans hBw (Below.mono hg2 (by have := Below.size hBw; omega))
          refine wpOp_go (by rfl) (Eq.refl _) (by go_simp; done) ?_
          intro K hK
          go_simp
          try simp only [Act.put]
          refine hK _ _ hS2 ?_
          clear hK K
          refine wpW_end (by kernel_rfl) ?_
          intro w3' hg3 hS3
          unfold NQ
          dsimp only
          have b44 := Blk.gr b43 hg3
          have hBy := Below.trans hBx (Below.mono hg3 (by have := Below.size hBx; omega))
          obtain ⟨z0, z1, z2, z3, _⟩ := blk4 b44
          go_wp2
          refine bodyPost_ret (v := gapC ((r1, r2, 1, 1), decide (r1 < r2))) ?_ rfl ⟨l', by rw [← HL0.out]; exact HP.out, HS.out, by rw [HF.out], by rw [hn0]; exact hBy⟩
          simp [results, Tryz.results23, go_sem, z0, z1, z2, z3, gapC]
end Go.Proofs.YtlnkgjkjdllckaaGreatDoor
