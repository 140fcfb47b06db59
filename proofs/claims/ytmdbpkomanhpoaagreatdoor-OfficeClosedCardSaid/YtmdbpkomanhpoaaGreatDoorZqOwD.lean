/- Scans made void (inspection.void, doubt). Scans doubted (inspection.doubt). A mark mended (inspection.mend). -/
import Derived.Test.YtmdbpkomanhpoaaGreatDoorZqOwA
import Derived.Test.YtmdbpkomanhpoaaGreatDoorZqOeK
namespace Go.Proofs.YtmdbpkomanhpoaaGreatDoor
open Go.RowKit Go.Lib

/-- A scan that is made void. -/
def voidF (P : Sc → Bool) (x : Sc) : Sc := if (!x.vo && P x) = true then ⟨x.mi, x.po, true⟩ else x
theorem voidF_hit {P : Sc → Bool} {x : Sc} (hv : x.vo = false) (hp : P x = true) : voidF P x = ⟨x.mi, x.po, true⟩ := by
  unfold voidF
  rw [if_pos (by rw [hv, hp]; rfl)]
def voidL (P : Sc → Bool) (l : List Sc) : List Sc := l.map (voidF P)
/-- How many counted of which it is so. -/
def voidC (P : Sc → Bool) (l : List Sc) : Nat := (l.filter fun x => !x.vo && P x).length
/-- The scans when k were looked at. -/
def voidK (P : Sc → Bool) (l : List Sc) (k : Nat) : List Sc := voidL P (l.take k) ++ l.drop k
theorem voidK_len (P : Sc → Bool) (l : List Sc) (k : Nat) : (voidK P l k).length = l.length := by
  unfold voidK voidL
  rw [List.length_append, List.length_map, List.length_take, List.length_drop]
  omega
theorem voidK_zero (P : Sc → Bool) (l : List Sc) : voidK P l 0 = l := by simp [voidK, voidL]
theorem voidK_all (P : Sc → Bool) (l : List Sc) : voidK P l l.length = voidL P l := by simp [voidK]
theorem voidK_at (P : Sc → Bool) (l : List Sc) {k : Nat} (h : k < l.length) (h' : k < (voidK P l k).length) : (voidK P l k)[k] = l[k] := by
  have e : (voidK P l k)[k]? = l[k]? := by
    unfold voidK
    rw [List.getElem?_append_right (by simp [voidL]; omega)]
    simp [voidL, Nat.min_eq_left (Nat.le_of_lt h)]
  rw [List.getElem?_eq_getElem h', List.getElem?_eq_getElem h] at e
  exact Option.some.inj e
theorem voidK_succ (P : Sc → Bool) (l : List Sc) {k : Nat} (h : k < l.length) : voidK P l (k + 1) = (voidK P l k).set k (voidF P l[k]) := by
  unfold voidK
  rw [List.take_succ_eq_append_getElem h]
  have hl : (voidL P (l.take k)).length = k := by simp [voidL]; omega
  rw [List.set_append_right _ _ (by omega), hl, Nat.sub_self, List.drop_eq_getElem_cons h, List.set_cons_zero]
  unfold voidL
  rw [List.map_append, List.append_assoc]
  rfl
theorem voidK_same (P : Sc → Bool) (l : List Sc) {k : Nat} (h : k < l.length) (hf : (!l[k].vo && P l[k]) = false) : voidK P l (k + 1) = voidK P l k := by
  rw [voidK_succ P l h]
  unfold voidF
  rw [hf]
  have h' : k < (voidK P l k).length := by rw [voidK_len]; exact h
  simp only [Bool.false_eq_true, if_false]
  rw [← voidK_at P l h h', List.set_getElem_self]
theorem voidC_succ (P : Sc → Bool) (l : List Sc) {k : Nat} (h : k < l.length) : voidC P (l.take (k + 1)) = voidC P (l.take k) + (if (!l[k].vo && P l[k]) = true then 1 else 0) := by
  unfold voidC
  rw [List.take_succ_eq_append_getElem h, List.filter_append, List.length_append]
  congr 1
  cases hb : (!l[k].vo && P l[k]) <;> simp [hb]
theorem voidC_le (P : Sc → Bool) (l : List Sc) : voidC P l ≤ l.length := List.length_filter_le _ _
/-- A store into the row of scans keeps the rest. -/
theorem Isp.scPut {s : Se} {m : Me} {B base bx g k : Nat} {a : Ia} {st : In} {l : List Sc} {w : World} (h : Isp s m B base bx a st w) (hA : a.sA = some ⟨g, 0, none⟩) (hk : k < st.sc.length) (hl : l = st.sc.set k ⟨st.sc[k].mi, st.sc[k].po, true⟩) :
    Isp s m B base bx a { st with sc := l } (w.setCell ⟨g, k * 3 + 2, none⟩ (.bool true)) ∧ w.grownBy (w.setCell ⟨g, k * 3 + 2, none⟩ (.bool true)) (Value.slice a.sA st.sc.length a.sc).ownBlock := by
  have he : (Value.slice a.sA st.sc.length a.sc).ownBlock = some g := by rw [hA]; rfl
  have hg : w.grownBy (w.setCell ⟨g, k * 3 + 2, none⟩ (.bool true)) (some g) := only_setCell (World.grownBy.refl w (some g)) (.inl rfl) _
  have hsc := h.sc
  rw [hA] at hsc
  have h0 := own_put hsc (j := k * 3 + 2) (by omega) (.bool true)
  rw [rowsC_set scF_len st.sc k hk 2 (by omega) (.bool true) ⟨st.sc[k].mi, st.sc[k].po, true⟩ rfl, ← hl, ← hA] at h0
  rw [← he] at hg
  have hlen : l.length = st.sc.length := by rw [hl]; simp
  have hb : Below base w (w.setCell ⟨g, k * 3 + 2, none⟩ (.bool true)) := (Below.refl base w).grown hg (Nat.le_trans h.lo (Nat.le_of_lt h.blk.lt)) (fun r e => (h.sc.lt r e).1)
  refine ⟨⟨h.set.below hb h.le, ?_, own_while h.ev h.sc (by decide) hg, by simp only [hlen]; exact h0, own_while h.ms h.sc (by decide) hg, h.le, h.lo, ⟨h.lim.ev, by show l.length ≤ 200; rw [hlen]; exact h.lim.sc, h.lim.ms, fun x hx => ?_⟩⟩, hg⟩
  · have := h.blk.grown hg (own_ne_blk h.sc h.blk (by decide)).symm
    unfold inC at this ⊢
    simp only [hlen]
    exact this
  · rw [hl] at hx
    rcases List.mem_or_eq_of_mem_set hx with hx | rfl
    · exact h.lim.pos x hx
    · exact (h.lim.pos _ (List.getElem_mem hk) :)
/-- What doubt's function reads. -/
structure DbS (gl gv n c' N : Nat) (NN : List Value) (w : World) : Prop where
  bl : Blk w gl 107 #[.slice (some ⟨gv, 0, none⟩) n c']
  hv : w.ownsRow N 3 1 (.slice (some ⟨gv, 0, none⟩) n c') n NN
theorem DbS.gr {gl gv n c' N : Nat} {NN : List Value} {w w' : World} (h : DbS gl gv n c' N NN w) (hg : Gr w w') : DbS gl gv n c' N NN w' := ⟨Blk.gr h.bl hg, own_below h.hv hg⟩
theorem DbS.grown {gl gv n c' N base m : Nat} {NN xs : List Value} {v : Value} {w w' : World} (h : DbS gl gv n c' N NN w) (h' : w.ownsRow base 140 3 v m xs) (hg : w.grownBy w' v.ownBlock) : DbS gl gv n c' N NN w' :=
  ⟨h.bl.grown hg (own_ne_blk h' h.bl (by decide)).symm, own_while h.hv h' (by decide) hg⟩
theorem own_at1 {w : World} {B e g n c : Nat} {v : Value} {xs : List Value} (h : w.ownsRow B e 1 (.slice (some ⟨g, 0, none⟩) n c) n xs) (hn : 0 < n) (hx : xs[0]? = some v) : w.cell? ⟨g, 0, none⟩ = some v := by
  obtain ⟨g', o, hA, hg, hc⟩ := (own_row_ h).2 (by omega)
  cases hA
  simpa using hc 0 _ hx
set_option maxRecDepth 100000 in
set_option maxHeartbeats 1000000 in
theorem doubt1_any (x : Sc) (gl gv n c' N : Nat) (NN : List Value) (mi : Int) (w : World) (h : DbS gl gv n c' N NN w) (hn : 0 < n) (hx : NN[0]? = some (.int .i64 mi)) :
    Calls Tryz.prog 98 #[.agg #[.int .i64 x.mi, .int .i64 x.po, .bool x.vo], .pointer (some ⟨gl, 0, none⟩)] w fun e w' => e = .returned (.bool (decide (mi ≤ x.mi))) ∧ Below w.heap.size w w' := by
  have hB0 : Below w.heap.size w (w.alloc (.cells #[.int .i64 x.mi, .int .i64 x.po, .bool x.vo] 140)) := (Below.refl _ _).alloc (Nat.le_refl _) _
  have b0 := Blk.new w 140 #[.int .i64 x.mi, .int .i64 x.po, .bool x.vo]
  have h1 := h.gr hB0
  have c0 := h1.bl.cell 0
  have d0 := own_at1 h1.hv hn hx
  have z0 := b0.cell 0
  have l0 := b0.lt
  have l1 := h1.bl.lt
  have l2 := World.block_lt_of_cell? _ _ d0
  simp only at l2
  have hni : (0 : Int) < (n : Int) := by omega
  clear h h1 b0
  generalize hW : w.alloc (.cells #[.int .i64 x.mi, .int .i64 x.po, .bool x.vo] 140) = W at *
  go_enter Tryz.func98, Tryz.ntmps98
  go_upto_region 1 with fail
  clear hW
  refine wp_region_b 7 (by kernel_rfl) (by kernel_rfl) ?_; simp only [List.take, List.drop]
  repeat (first
    | (apply StepsD.run
       · go_simp
         done
       · intro w' hS K hK
         have hc := (bcell hS).1
         have hf := (bcell hS).2
         have hz := hS.size
         try simp at hz
         go_simp
         try go_bits
         first
           | exact hK _ hS
           | fail
           | exact hK _ (by repeat (first | (with_reducible exact Below.refl _ _) | (with_reducible assumption) | ((with_reducible refine Below.setCell ?_ ?_ _); rotate_left; · (first | exact Nat.le_refl _ | (simp; done) | (simp; omega) | omega)) | ((with_reducible refine Below.alloc ?_ ?_ _); rotate_left; · (first | exact Nat.le_refl _ | (simp; done) | (simp; omega) | omega)) | (with_reducible apply Below.drew) | (with_reducible apply below_drewN') | (refine Below.trans ?_ (Below.mono (by assumption) (by first | exact Nat.le_refl _ | (simp; done) | (simp; omega) | omega))) | exact Below.refl _ _ | assumption))
       · simp [Act.put]
         done)
    | (apply StepsD.pass
       · first | (go_simp; done) | rfl
       · simp only [Act.put, List.setIfInBounds_toArray, List.set_cons_succ, List.set_cons_zero]
         rfl))
  intro w9 hS9
  go_wp2_with fail
  go_ret
  exact ⟨rfl, hB0.trans (hS9.mono hB0.size)⟩
set_option maxRecDepth 100000 in
set_option maxHeartbeats 4000000 in
theorem voidDb_any (s : Se) (m : Me) (B base bx : Nat) (a : Ia) (st : In) (gl gv n c' N : Nat) (NN : List Value) (mi : Int) (w : World) (h : Isp s m B base bx a st w) (hS : DbS gl gv n c' N NN w) (hn0 : 0 < n) (hx0 : NN[0]? = some (.int .i64 mi)) :
    Calls Tryz.prog 97 #[.pointer (some ⟨bx, 0, none⟩), .func (.func 98) #[] #[.pointer (some ⟨gl, 0, none⟩)]] w fun e w' => e = .returned (.int .i64 (voidC (fun x : Sc => decide (mi ≤ x.mi)) st.sc : Nat)) ∧ Isp s m B base bx a { st with sc := voidL (fun x : Sc => decide (mi ≤ x.mi)) st.sc } w' ∧ Below base w w' := by
  have HI := Lib.hid h; have HSS := Lib.hid hS
  have hbw : base ≤ w.heap.size := Nat.le_trans h.lo (Nat.le_of_lt h.blk.lt)
  have hn := h.lim.sc
  obtain ⟨c0, c1, c2, c3, c4, c5, c6, c7, c8, c9, c10, c11, c12, c13, c14, c15, c16, cf⟩ := blk17 h.blk
  have lb := h.blk.lt
  have HKK : Hid (∀ (x : Sc) W, Isp s m B base bx a { st with sc := voidK (fun x : Sc => decide (mi ≤ x.mi)) st.sc 0 } W ∨ True → DbS gl gv n c' N NN W → True) := Lib.hid fun _ _ _ _ => trivial
  clear h hS HKK
  go_enter Tryz.func97, Tryz.ntmps97
  go_wp2
  clear c0 c1 c2 c3 c4 c5 c6 c7 c8 c9 c10 c11 c12 c13 c14 c15 c16 cf lb
  go_loopw [5, 14] (fun ct i wr => ∃ k : Nat, k ≤ st.sc.length ∧ ct = .int .i64 (voidC (fun x : Sc => decide (mi ≤ x.mi)) (st.sc.take k) : Nat) ∧ i = .int .i64 k ∧ Hid (Isp s m B base bx a { st with sc := voidK (fun x : Sc => decide (mi ≤ x.mi)) st.sc k } wr) ∧ Hid (DbS gl gv n c' N NN wr) ∧ Below base w wr) (fun _ i _ => st.sc.length - (intOf i).toNat)
  case atStart => exact ⟨0, Nat.zero_le _, rfl, rfl, Lib.hid (by rw [voidK_zero]; exact HI.out), HSS, Below.refl _ _⟩
  case round =>
    obtain ⟨k, hk, rfl, rfl, HX, HY, hBr⟩ := hrel
    by_cases hlt : k < st.sc.length
    · have hbr : base ≤ wr.heap.size := Nat.le_trans hbw hBr.size
      have HLN := Lib.hid (voidK_len (fun x : Sc => decide (mi ≤ x.mi)) st.sc k)
      have hkk : k < (voidK (fun x : Sc => decide (mi ≤ x.mi)) st.sc k).length := by rw [HLN.out]; exact hlt
      obtain ⟨g, o, hA, hg, d0, d1, d2⟩ := scRow3 (own_row_ HX.out.sc) hkk
      obtain rfl : o = 0 := by
        obtain ⟨_, ⟨hv, _⟩ | ⟨g', cap', cur, hv, _⟩⟩ := HX.out.sc
        · rw [hA] at hv; cases hv
        · rw [hA] at hv; cases hv; rfl
      dsimp only at d0 d1 d2
      rw [voidK_at (fun x : Sc => decide (mi ≤ x.mi)) st.sc hlt hkk] at d0 d1 d2
      simp only [Nat.zero_add] at d0 d1 d2
      obtain ⟨c0, c1, c2, c3, c4, c5, c6, c7, c8, c9, c10, c11, c12, c13, c14, c15, c16, cf⟩ := blk17 HX.out.blk
      have lb := HX.out.blk.lt
      clear c0 c1 c2 c3 c4 c5 c6 c7 c8 c9 c10 c11 c12 c13 c15 c16 cf
      dsimp only at c14
      rw [HLN.out, hA] at c14
      have HA := Lib.hid hA; clear hA
      have HSAME := Lib.hid (voidK_same (fun x : Sc => decide (mi ≤ x.mi)) st.sc hlt)
      have HSUCC := Lib.hid (voidK_succ (fun x : Sc => decide (mi ≤ x.mi)) st.sc hlt)
      have HCS := Lib.hid (voidC_succ (fun x : Sc => decide (mi ≤ x.mi)) st.sc hlt)
      have HCL : Hid (voidC (fun x : Sc => decide (mi ≤ x.mi)) (st.sc.take k) ≤ 200) := Lib.hid (Nat.le_trans (voidC_le _ _) (by rw [List.length_take]; omega))
      have HAT := Lib.hid (voidK_at (fun x : Sc => decide (mi ≤ x.mi)) st.sc hlt hkk)
      have HPOS := Lib.hid (HI.out.lim.pos _ (List.getElem_mem hlt))
      have HKK2 := Lib.hid hkk
      obtain ⟨x, hx⟩ : ∃ x, st.sc[k] = x := ⟨_, rfl⟩
      rw [hx] at d0 d1 d2 HSAME HSUCC HCS HAT HPOS
      clear hx
      obtain ⟨xm, xp, xv⟩ := x
      dsimp only at d0 d1 d2 HPOS
      have hki : (k : Int) < (st.sc.length : Int) := by omega
      have hvc := HCL.out
      generalize hvn : voidC (fun x : Sc => decide (mi ≤ x.mi)) (st.sc.take k) = vn at *
      clear hvn
      cases xv
      rotate_left
      · have HX1 : Hid (Isp s m B base bx a { st with sc := voidK (fun x : Sc => decide (mi ≤ x.mi)) st.sc (k + 1) } wr) := Lib.hid (by rw [HSAME.out rfl]; exact HX.out)
        have HC1 : Hid (voidC (fun x : Sc => decide (mi ≤ x.mi)) (st.sc.take (k + 1)) = vn) := Lib.hid (by rw [HCS.out]; rfl)
        clear HSAME HSUCC HCS
        go_wp2
        refine ⟨⟨k + 1, by omega, by rw [HC1.out], by go_num, HX1, HY, hBr⟩, by simp [intOf]; omega⟩
      · have HCC := Lib.hid (doubt1_any ⟨xm, xp, false⟩ gl gv n c' N NN mi wr HY.out hn0 hx0)
        obtain ⟨pd, hpd⟩ : ∃ pd, (fun x : Sc => decide (mi ≤ x.mi)) ⟨xm, xp, false⟩ = pd := ⟨_, rfl⟩
        have HPD : Hid ((fun x : Sc => decide (mi ≤ x.mi)) ⟨xm, xp, false⟩ = pd) := Lib.hid hpd
        dsimp only at hpd HCC
        rw [hpd] at HCC
        clear hpd
        go_wp2_with fail
        refine HCC.out.mono ?_
        rintro e w2 ⟨rfl, hB2⟩
        have HX2 := Lib.hid (HX.out.below hB2 (Nat.le_refl _))
        have HY2 := Lib.hid (HY.out.gr hB2)
        have hB3 : Below base w w2 := hBr.trans (hB2.mono hbr)
        have e2 := (hB2.cell (p := ⟨g, k * 3 + 2, none⟩) hg).trans d2
        have lg := World.block_lt_of_cell? _ _ e2
        simp only at lg
        clear d0 d1 d2 hB2 HX HY hBr hg lb c14 HCC
        cases pd
        · have HX1 : Hid (Isp s m B base bx a { st with sc := voidK (fun x : Sc => decide (mi ≤ x.mi)) st.sc (k + 1) } w2) := Lib.hid (by rw [HSAME.out (by rw [HPD.out]; rfl)]; exact HX2.out)
          have HC1 : Hid (voidC (fun x : Sc => decide (mi ≤ x.mi)) (st.sc.take (k + 1)) = vn) := Lib.hid (by rw [HCS.out, HPD.out]; rfl)
          clear HSAME HSUCC HCS e2 lg
          go_wp2
          refine ⟨⟨k + 1, by omega, by rw [HC1.out], by go_num, HX1, HY2, hB3⟩, by simp [intOf]; omega⟩
        · have hput := HX2.out.scPut HA.out HKK2.out (l := voidK (fun x : Sc => decide (mi ≤ x.mi)) st.sc (k + 1)) (by
            rw [HSUCC.out]
            dsimp only
            rw [HAT.out]
            rw [voidF_hit (P := (fun x : Sc => decide (mi ≤ x.mi))) (x := ⟨xm, xp, false⟩) rfl HPD.out])
          have HX1 := Lib.hid hput.1
          have HY3 := Lib.hid (HY2.out.grown HX2.out.sc hput.2)
          have HC1 : Hid (voidC (fun x : Sc => decide (mi ≤ x.mi)) (st.sc.take (k + 1)) = vn + 1) := Lib.hid (by rw [HCS.out, HPD.out]; rfl)
          have hgb : base ≤ g := by
            have hsc := HX2.out.sc
            rw [HA.out] at hsc
            exact (hsc.lt _ rfl).1
          have HB4 := Lib.hid (hB3.setCell (p := ⟨g, k * 3 + 2, none⟩) hgb (.bool true))
          have hfz : w2.frozen? ⟨g, k * 3 + 2, none⟩ = false := by
            have hsc := HX2.out.sc
            rw [HA.out] at hsc
            obtain ⟨_, ⟨hv, _⟩ | ⟨g2, cap', cur, hv, hb, hh, _⟩⟩ := hsc
            · cases hv
            · cases hv
              exact (show Blk w2 g _ cur from hh).frozen _
          clear HSAME HSUCC HCS hput hB3
          go_wp2
          refine ⟨⟨k + 1, by omega, by rw [HC1.out]; go_num, by go_num, HX1, HY3, HB4.out⟩, by simp [intOf]; omega⟩
    · obtain rfl : k = st.sc.length := by omega
      have HC1 : Hid (voidC (fun x : Sc => decide (mi ≤ x.mi)) (st.sc.take st.sc.length) = voidC (fun x : Sc => decide (mi ≤ x.mi)) st.sc) := Lib.hid (by rw [List.take_length])
      have HX1 : Hid (Isp s m B base bx a { st with sc := voidL (fun x : Sc => decide (mi ≤ x.mi)) st.sc } wr) := Lib.hid (by rw [← voidK_all]; exact HX.out)
      go_wp2
      go_ret
      exact ⟨by rw [← HC1.out]; rfl, HX1.out, hBr⟩
end Go.Proofs.YtmdbpkomanhpoaaGreatDoor

namespace Go.Proofs.YtmdbpkomanhpoaaGreatDoor
open Go.RowKit Go.Lib

theorem voidL_same {P : Sc → Bool} {l : List Sc} (h : voidC P l = 0) : voidL P l = l := by
  unfold voidC at h
  have h1 : ∀ x ∈ l, (!x.vo && P x) = false := fun x hx => by
    have h2 := List.eq_nil_of_length_eq_zero h
    cases hb : (!x.vo && P x)
    · rfl
    · have : x ∈ l.filter fun x => !x.vo && P x := List.mem_filter.2 ⟨hx, hb⟩
      rw [h2] at this
      cases this
  unfold voidL
  conv => rhs; rw [← List.map_id l]
  exact List.map_congr_left fun x hx => by
    unfold voidF
    rw [if_neg (by rw [h1 x hx]; decide)]
    rfl
/-- The error of a doubt, and the state behind it. -/
def doubtP (mi : Int) : Sc → Bool := fun x : Sc => decide (mi ≤ x.mi)
def doubtE (st : In) (ws : List ByteArray) : Int := if numsO ws = false then 7 else if wi (nW ws 0) 0 100000000 = false then 2 else if voidC (doubtP (nW ws 0)) st.sc = 0 then 12 else 0
def doubtS (st : In) (ws : List ByteArray) : In := { st with sc := voidL (doubtP (nW ws 0)) st.sc }
set_option maxRecDepth 100000 in
set_option maxHeartbeats 4000000 in
theorem doubt_any (s : Se) (m : Me) (B base bx : Nat) (a : Ia) (st : In) (bb : ByteArray) (ws : List ByteArray) (A : Option Addr) (c C : Nat) (w : World) (h : Isp s m B base bx a st w) (hw : WsOk ws A c C w) (h1 : ws.length = 1) (hL : LibW w) :
    Calls Tryz.prog 66 #[.pointer (some ⟨bx, 0, none⟩), .string bb, .slice A 1 c] w fun e w' => StepR s m B base bx a st (doubtE st ws) (doubtS st ws) e w' ∧ Below base w w' := by
  have HI := Lib.hid h
  have hbw : base ≤ w.heap.size := Nat.le_trans h.lo (Nat.le_of_lt h.blk.lt)
  have HN := Lib.hid (numbers_any ws A c C w hw.row hw.base (by omega) (fun x hx => Nat.le_trans (hw.sz x hx) (by decide)) hL)
  rw [h1] at HN
  have HE : Hid (doubtE st ws = if numsO ws = false then 7 else if wi (nW ws 0) 0 100000000 = false then 2 else if voidC (doubtP (nW ws 0)) st.sc = 0 then 12 else 0) := Lib.hid rfl
  have HST : Hid (doubtS st ws = { st with sc := voidL (doubtP (nW ws 0)) st.sc }) := Lib.hid rfl
  have HNW : Hid ((intsC (numsOf ws))[0]? = some (.int .i64 (nW ws 0))) := Lib.hid (nW_at (by omega))
  generalize doubtE st ws = E at *
  generalize doubtS st ws = st' at *
  clear h hw hL
  go_enter Tryz.func66, Tryz.ntmps66
  go_wp2_with fail
  refine HN.out.mono ?_
  rintro e wn ⟨hN, hB1⟩
  rcases hN with ⟨n0, rfl⟩ | ⟨n1, v, rfl, hv⟩
  · replace HE := Lib.hid (HE.out.trans (if_pos n0))
    have hB2 := hB1.alloc hB1.size (.cells #[.slice none 0 0] 107 (0, 0))
    have HX := Lib.hid (HI.out.below hB2 (Nat.le_refl _))
    clear n0
    go_wp2
    go_ret
    exact ⟨⟨by rw [HE.out]; rfl, fun _ => HX.out, fun e => by rw [HE.out] at e; cases e⟩, hB2.mono hbw⟩
  replace HE := Lib.hid (HE.out.trans (if_neg (by simp [n1])))
  clear n1
  rw [h1] at hv
  obtain ⟨A', c', rfl, hc1, hc2, hR⟩ := Row.ownd hv
  obtain ⟨gv, rfl⟩ : ∃ gv, A' = some ⟨gv, 0, none⟩ := by
    obtain ⟨_, ⟨hx, _⟩ | ⟨g, cap, cur, hx, _⟩⟩ := hv
    · cases hx
    · cases hx; exact ⟨g, rfl⟩
  clear hR HN
  generalize hNN : intsC (numsOf ws) = NN at *
  clear hNN
  generalize nW ws 0 = mi at *
  have hB2 := hB1.alloc hB1.size (.cells #[.slice (some ⟨gv, 0, none⟩) 1 c'] 107 (0, 0))
  have hal : Gr wn (wn.alloc (.cells #[.slice (some ⟨gv, 0, none⟩) 1 c'] 107)) := (Below.refl _ _).alloc (Nat.le_refl _) _
  have HS1 : Hid (DbS wn.heap.size gv 1 c' w.heap.size NN (wn.alloc (.cells #[.slice (some ⟨gv, 0, none⟩) 1 c'] 107))) := Lib.hid ⟨Blk.new _ _ _, own_below hv hal⟩
  have hgl : w.heap.size ≤ wn.heap.size := hB1.size
  clear hv hal
  have c0 := HS1.out.bl.cell 0
  have l0 := HS1.out.bl.lt
  have d0 := own_at1 HS1.out.hv (by decide) HNW.out
  have l1 := World.block_lt_of_cell? _ _ d0
  simp only at l1
  generalize hWl : wn.alloc (.cells #[.slice (some ⟨gv, 0, none⟩) 1 c'] 107) = W1 at *
  have HX1 := Lib.hid (HI.out.below hB2 (Nat.le_refl _))
  cases q1 : wi mi 0 100000000
  · replace HE := Lib.hid (HE.out.trans (if_pos q1))
    go_wp2_with (go_at_call 79; refine (oWithin_any _ _ _ _).mono ?_; rintro e w1 ⟨rfl, rfl⟩)
    go_ret
    exact ⟨⟨by rw [HE.out]; rfl, fun _ => HX1.out, fun e => by rw [HE.out] at e; cases e⟩, hB2.mono hbw⟩
  replace HE := Lib.hid (HE.out.trans (if_neg (by simp [q1])))
  have HV : Hid (Calls Tryz.prog 97 #[.pointer (some ⟨bx, 0, none⟩), .func (.func 98) #[] #[.pointer (some ⟨wn.heap.size, 0, none⟩)]] W1 fun e w' => e = .returned (.int .i64 (voidC (doubtP mi) st.sc : Nat)) ∧ Isp s m B base bx a { st with sc := voidL (doubtP mi) st.sc } w' ∧ Below base W1 w') :=
    Lib.hid (voidDb_any s m B base bx a st wn.heap.size gv 1 c' w.heap.size NN mi W1 HX1.out HS1.out (by decide) HNW.out)
  have HVS : Hid (voidC (doubtP mi) st.sc = 0 → voidL (doubtP mi) st.sc = st.sc) := Lib.hid voidL_same
  generalize voidL (doubtP mi) st.sc = VL at *
  generalize voidC (doubtP mi) st.sc = VC at *
  go_upto_region 6 with (go_at_call 79; refine (oWithin_any _ _ _ _).mono ?_; rintro e w1 ⟨rfl, rfl⟩)
  clear hWl c0 l0 d0 l1 q1
  generalize wn.heap.size = gl at *
  go_wp2_with fail
  refine HV.out.mono ?_
  rintro e w2 ⟨rfl, hI2, hB3⟩
  have HI2 := Lib.hid hI2; clear hI2
  have HB := Lib.hid ((hB2.mono hbw).trans hB3)
  clear hB2 hB3 hB1
  by_cases hv0 : VC = 0
  · replace HE := Lib.hid (HE.out.trans (if_pos hv0))
    have HI3 : Hid (Isp s m B base bx a st w2) := Lib.hid (by have h := HI2.out; rw [HVS.out hv0] at h; exact h)
    subst hv0
    go_wp2
    go_ret
    exact ⟨⟨by rw [HE.out]; rfl, fun _ => HI3.out, fun e => by rw [HE.out] at e; cases e⟩, HB.out⟩
  · replace HE := Lib.hid (HE.out.trans (if_neg hv0))
    have hv1 : ((VC : Int) == 0) = false := by simp; omega
    have HVC := Lib.hid hv0; clear hv0
    go_wp2
    go_ret
    exact ⟨⟨by rw [HE.out]; rfl, fun e => absurd HE.out e, fun _ => ⟨_, by rw [HST.out]; exact HI2.out⟩⟩, HB.out⟩
end Go.Proofs.YtmdbpkomanhpoaaGreatDoor

namespace Go.Proofs.YtmdbpkomanhpoaaGreatDoor
open Go.RowKit Go.Lib

/-- The scans that saw a place. -/
def mendP (tk : Tk) (po : Int) : Sc → Bool := fun y : Sc => wi po (y.po + tk.slip - tk.reach) (y.po - tk.slip + tk.reach)
def TkFine (tk : Tk) : Prop := (-10000000 ≤ tk.slip ∧ tk.slip ≤ 10000000) ∧ (-10000000 ≤ tk.reach ∧ tk.reach ≤ 10000000)
/-- What mend's function reads. -/
structure MdS (g7 g3 gm km bx : Nat) (w : World) : Prop where
  b7 : Blk w g7 177 #[.pointer (some ⟨gm, km * 13, none⟩)]
  b3 : Blk w g3 70 #[.pointer (some ⟨bx, 0, none⟩)]
theorem MdS.gr {g7 g3 gm km bx : Nat} {w w' : World} (h : MdS g7 g3 gm km bx w) (hg : Gr w w') : MdS g7 g3 gm km bx w' := ⟨Blk.gr h.b7 hg, Blk.gr h.b3 hg⟩
theorem MdS.grown {g7 g3 gm km bx base m e : Nat} {sz : Nat} {xs : List Value} {v : Value} {w w' : World} (h : MdS g7 g3 gm km bx w) (h' : w.ownsRow base e sz v m xs) (he : 177 ≠ e ∧ 70 ≠ e) (hg : w.grownBy w' v.ownBlock) : MdS g7 g3 gm km bx w' :=
  ⟨h.b7.grown hg (own_ne_blk h' h.b7 he.1).symm, h.b3.grown hg (own_ne_blk h' h.b3 he.2).symm⟩
theorem mkPo {s : Se} {m : Me} {B base bx gm km : Nat} {a : Ia} {st : In} {w : World} (h : Isp s m B base bx a st w) (hA : a.mA = some ⟨gm, 0, none⟩) (hk : km < st.ms.length) {po : Int} (hp : st.ms[km].po = po) : w.cell? ⟨gm, km * 13 + 2, none⟩ = some (.int .i64 po) := by
  obtain ⟨g', o', hA', hg', y0, y1, y2, _⟩ := (own_row_ h.ms).at13 mkF_len hk rfl
  rw [hA] at hA'
  cases hA'
  rw [hp] at y2
  simpa using y2
set_option maxRecDepth 100000 in
set_option maxHeartbeats 4000000 in
theorem mend1_any (x : Sc) (s : Se) (m : Me) (B base bx : Nat) (a : Ia) (st : In) (g7 g3 gm km : Nat) (po : Int) (w : World) (h : Isp s m B base bx a st w) (hS : MdS g7 g3 gm km bx w) (hA : a.mA = some ⟨gm, 0, none⟩) (hk : km < st.ms.length) (hp : st.ms[km].po = po) (htk : TkFine s.tk) (hx : -2000000 ≤ x.po ∧ x.po ≤ 2000000) :
    Calls Tryz.prog 106 #[.agg #[.int .i64 x.mi, .int .i64 x.po, .bool x.vo], .pointer (some ⟨g7, 0, none⟩), .pointer (some ⟨g3, 0, none⟩)] w fun e w' => e = .returned (.bool (mendP s.tk po x)) ∧ Below w.heap.size w w' := by
  have HV : Hid (mendP s.tk po x = wi po (x.po + s.tk.slip - s.tk.reach) (x.po - s.tk.slip + s.tk.reach)) := Lib.hid rfl
  have hB0 : Below w.heap.size w (w.alloc (.cells #[.int .i64 x.mi, .int .i64 x.po, .bool x.vo] 140)) := (Below.refl _ _).alloc (Nat.le_refl _) _
  have b0 := Blk.new w 140 #[.int .i64 x.mi, .int .i64 x.po, .bool x.vo]
  have h1 := hS.gr hB0
  have hI := h.below hB0 (Nat.le_refl _)
  obtain ⟨c0, c1, c2, c3, c4, c5, c6, c7, c8, c9, c10, c11, c12, c13, c14, c15, c16, cf⟩ := blk17 hI.blk
  have lb := hI.blk.lt
  clear c0 c1 c2 c3 c4 c5 c6 c7 c10 c11 c12 c13 c14 c15 c16 cf
  have d7 := h1.b7.cell 0
  have d3 := h1.b3.cell 0
  have l7 := h1.b7.lt
  have l3 := h1.b3.lt
  have y2 := mkPo hI hA hk hp
  have ly := World.block_lt_of_cell? _ _ y2
  simp only at ly
  have z1 := b0.cell 1
  have l0 := b0.lt
  obtain ⟨⟨t1, t2⟩, t3, t4⟩ := htk
  obtain ⟨x1, x2⟩ := hx
  clear h hS h1 hI hA b0 hp hk
  generalize s.tk.slip = sl at *
  generalize s.tk.reach = re at *
  have w1 : IntKind.i64.wrap (x.po + sl) = x.po + sl := IntWalk.i64_in _ (by omega)
  have w2 : IntKind.i64.wrap (x.po + sl - re) = x.po + sl - re := IntWalk.i64_in _ (by omega)
  have w3 : IntKind.i64.wrap (x.po - sl) = x.po - sl := IntWalk.i64_in _ (by omega)
  have w4 : IntKind.i64.wrap (x.po - sl + re) = x.po - sl + re := IntWalk.i64_in _ (by omega)
  generalize hW : w.alloc (.cells #[.int .i64 x.mi, .int .i64 x.po, .bool x.vo] 140) = W at *
  go_enter Tryz.func106, Tryz.ntmps106
  go_upto_region 1 with fail
  clear hW
  refine wp_region_b 37 (by kernel_rfl) (by kernel_rfl) ?_; simp only [List.take, List.drop]
  repeat (first
    | (apply StepsD.run
       · go_simp
         done
       · intro w' hS K hK
         have hc := (bcell hS).1
         have hf := (bcell hS).2
         have hz := hS.size
         try simp at hz
         go_simp
         try go_bits
         first
           | exact hK _ hS
           | (go_at_call 79; (refine (oWithin_any _ _ _ _).mono ?_); rintro e wq ⟨rfl, rfl⟩; exact hK _ hS)
           | exact hK _ (by repeat (first | (with_reducible exact Below.refl _ _) | (with_reducible assumption) | ((with_reducible refine Below.setCell ?_ ?_ _); rotate_left; · (first | exact Nat.le_refl _ | (simp; done) | (simp; omega) | omega)) | ((with_reducible refine Below.alloc ?_ ?_ _); rotate_left; · (first | exact Nat.le_refl _ | (simp; done) | (simp; omega) | omega)) | (with_reducible apply Below.drew) | (with_reducible apply below_drewN') | (refine Below.trans ?_ (Below.mono (by assumption) (by first | exact Nat.le_refl _ | (simp; done) | (simp; omega) | omega))) | exact Below.refl _ _ | assumption))
       · simp [Act.put]
         done)
    | (apply StepsD.pass
       · first | (go_simp; done) | rfl
       · simp only [Act.put, List.setIfInBounds_toArray, List.set_cons_succ, List.set_cons_zero]
         rfl))
  refine StepsD.done ?_
  intro w9 hS9
  go_wp2_with fail
  go_ret
  exact ⟨by rw [HV.out]; rfl, hB0.trans (hS9.mono hB0.size)⟩
set_option maxRecDepth 100000 in
set_option maxHeartbeats 4000000 in
theorem voidMd_any (s : Se) (m : Me) (B base bx : Nat) (a : Ia) (st : In) (g7 g3 gm km : Nat) (po : Int) (w : World) (h : Isp s m B base bx a st w) (hS : MdS g7 g3 gm km bx w) (hmA : a.mA = some ⟨gm, 0, none⟩) (hkm : km < st.ms.length) (hpm : st.ms[km].po = po) (htk : TkFine s.tk) :
    Calls Tryz.prog 97 #[.pointer (some ⟨bx, 0, none⟩), .func (.func 106) #[] #[.pointer (some ⟨g7, 0, none⟩), .pointer (some ⟨g3, 0, none⟩)]] w fun e w' => e = .returned (.int .i64 (voidC (mendP s.tk po) st.sc : Nat)) ∧ Isp s m B base bx a { st with sc := voidL (mendP s.tk po) st.sc } w' ∧ Below base w w' := by
  have HI := Lib.hid h; have HSS := Lib.hid hS; have HMA := Lib.hid hmA; clear hmA
  have hbw : base ≤ w.heap.size := Nat.le_trans h.lo (Nat.le_of_lt h.blk.lt)
  have hn := h.lim.sc
  obtain ⟨c0, c1, c2, c3, c4, c5, c6, c7, c8, c9, c10, c11, c12, c13, c14, c15, c16, cf⟩ := blk17 h.blk
  have lb := h.blk.lt
  have HKK : Hid (∀ (x : Sc) W, Isp s m B base bx a { st with sc := voidK (mendP s.tk po) st.sc 0 } W ∨ True → MdS g7 g3 gm km bx W → True) := Lib.hid fun _ _ _ _ => trivial
  clear h hS HKK
  go_enter Tryz.func97, Tryz.ntmps97
  go_wp2
  clear c0 c1 c2 c3 c4 c5 c6 c7 c8 c9 c10 c11 c12 c13 c14 c15 c16 cf lb
  go_loopw [5, 14] (fun ct i wr => ∃ k : Nat, k ≤ st.sc.length ∧ ct = .int .i64 (voidC (mendP s.tk po) (st.sc.take k) : Nat) ∧ i = .int .i64 k ∧ Hid (Isp s m B base bx a { st with sc := voidK (mendP s.tk po) st.sc k } wr) ∧ Hid (MdS g7 g3 gm km bx wr) ∧ Below base w wr) (fun _ i _ => st.sc.length - (intOf i).toNat)
  case atStart => exact ⟨0, Nat.zero_le _, rfl, rfl, Lib.hid (by rw [voidK_zero]; exact HI.out), HSS, Below.refl _ _⟩
  case round =>
    obtain ⟨k, hk, rfl, rfl, HX, HY, hBr⟩ := hrel
    by_cases hlt : k < st.sc.length
    · have hbr : base ≤ wr.heap.size := Nat.le_trans hbw hBr.size
      have HLN := Lib.hid (voidK_len (mendP s.tk po) st.sc k)
      have hkk : k < (voidK (mendP s.tk po) st.sc k).length := by rw [HLN.out]; exact hlt
      obtain ⟨g, o, hA, hg, d0, d1, d2⟩ := scRow3 (own_row_ HX.out.sc) hkk
      obtain rfl : o = 0 := by
        obtain ⟨_, ⟨hv, _⟩ | ⟨g', cap', cur, hv, _⟩⟩ := HX.out.sc
        · rw [hA] at hv; cases hv
        · rw [hA] at hv; cases hv; rfl
      dsimp only at d0 d1 d2
      rw [voidK_at (mendP s.tk po) st.sc hlt hkk] at d0 d1 d2
      simp only [Nat.zero_add] at d0 d1 d2
      obtain ⟨c0, c1, c2, c3, c4, c5, c6, c7, c8, c9, c10, c11, c12, c13, c14, c15, c16, cf⟩ := blk17 HX.out.blk
      have lb := HX.out.blk.lt
      clear c0 c1 c2 c3 c4 c5 c6 c7 c8 c9 c10 c11 c12 c13 c15 c16 cf
      dsimp only at c14
      rw [HLN.out, hA] at c14
      have HA := Lib.hid hA; clear hA
      have HSAME := Lib.hid (voidK_same (mendP s.tk po) st.sc hlt)
      have HSUCC := Lib.hid (voidK_succ (mendP s.tk po) st.sc hlt)
      have HCS := Lib.hid (voidC_succ (mendP s.tk po) st.sc hlt)
      have HCL : Hid (voidC (mendP s.tk po) (st.sc.take k) ≤ 200) := Lib.hid (Nat.le_trans (voidC_le _ _) (by rw [List.length_take]; omega))
      have HAT := Lib.hid (voidK_at (mendP s.tk po) st.sc hlt hkk)
      have HPOS := Lib.hid (HI.out.lim.pos _ (List.getElem_mem hlt))
      have HKK2 := Lib.hid hkk
      obtain ⟨x, hx⟩ : ∃ x, st.sc[k] = x := ⟨_, rfl⟩
      rw [hx] at d0 d1 d2 HSAME HSUCC HCS HAT HPOS
      clear hx
      obtain ⟨xm, xp, xv⟩ := x
      dsimp only at d0 d1 d2 HPOS
      have hki : (k : Int) < (st.sc.length : Int) := by omega
      have hvc := HCL.out
      generalize hvn : voidC (mendP s.tk po) (st.sc.take k) = vn at *
      clear hvn
      cases xv
      rotate_left
      · have HX1 : Hid (Isp s m B base bx a { st with sc := voidK (mendP s.tk po) st.sc (k + 1) } wr) := Lib.hid (by rw [HSAME.out rfl]; exact HX.out)
        have HC1 : Hid (voidC (mendP s.tk po) (st.sc.take (k + 1)) = vn) := Lib.hid (by rw [HCS.out]; rfl)
        clear HSAME HSUCC HCS
        go_wp2
        refine ⟨⟨k + 1, by omega, by rw [HC1.out], by go_num, HX1, HY, hBr⟩, by simp [intOf]; omega⟩
      · have HCC := Lib.hid (mend1_any ⟨xm, xp, false⟩ s m B base bx a { st with sc := voidK (mendP s.tk po) st.sc k } g7 g3 gm km po wr HX.out HY.out HMA.out hkm hpm htk ⟨HPOS.out.2.2.1, HPOS.out.2.2.2⟩)
        obtain ⟨pd, hpd⟩ : ∃ pd, (mendP s.tk po) ⟨xm, xp, false⟩ = pd := ⟨_, rfl⟩
        have HPD : Hid ((mendP s.tk po) ⟨xm, xp, false⟩ = pd) := Lib.hid hpd
        dsimp only at hpd HCC
        rw [hpd] at HCC
        clear hpd
        go_wp2_with fail
        refine HCC.out.mono ?_
        rintro e w2 ⟨rfl, hB2⟩
        have HX2 := Lib.hid (HX.out.below hB2 (Nat.le_refl _))
        have HY2 := Lib.hid (HY.out.gr hB2)
        have hB3 : Below base w w2 := hBr.trans (hB2.mono hbr)
        have e2 := (hB2.cell (p := ⟨g, k * 3 + 2, none⟩) hg).trans d2
        have lg := World.block_lt_of_cell? _ _ e2
        simp only at lg
        clear d0 d1 d2 hB2 HX HY hBr hg lb c14 HCC
        cases pd
        · have HX1 : Hid (Isp s m B base bx a { st with sc := voidK (mendP s.tk po) st.sc (k + 1) } w2) := Lib.hid (by rw [HSAME.out (by rw [HPD.out]; rfl)]; exact HX2.out)
          have HC1 : Hid (voidC (mendP s.tk po) (st.sc.take (k + 1)) = vn) := Lib.hid (by rw [HCS.out, HPD.out]; rfl)
          clear HSAME HSUCC HCS e2 lg
          go_wp2
          refine ⟨⟨k + 1, by omega, by rw [HC1.out], by go_num, HX1, HY2, hB3⟩, by simp [intOf]; omega⟩
        · have hput := HX2.out.scPut HA.out HKK2.out (l := voidK (mendP s.tk po) st.sc (k + 1)) (by
            rw [HSUCC.out]
            dsimp only
            rw [HAT.out]
            rw [voidF_hit (P := (mendP s.tk po)) (x := ⟨xm, xp, false⟩) rfl HPD.out])
          have HX1 := Lib.hid hput.1
          have HY3 := Lib.hid (HY2.out.grown HX2.out.sc (by decide) hput.2)
          have HC1 : Hid (voidC (mendP s.tk po) (st.sc.take (k + 1)) = vn + 1) := Lib.hid (by rw [HCS.out, HPD.out]; rfl)
          have hgb : base ≤ g := by
            have hsc := HX2.out.sc
            rw [HA.out] at hsc
            exact (hsc.lt _ rfl).1
          have HB4 := Lib.hid (hB3.setCell (p := ⟨g, k * 3 + 2, none⟩) hgb (.bool true))
          have hfz : w2.frozen? ⟨g, k * 3 + 2, none⟩ = false := by
            have hsc := HX2.out.sc
            rw [HA.out] at hsc
            obtain ⟨_, ⟨hv, _⟩ | ⟨g2, cap', cur, hv, hb, hh, _⟩⟩ := hsc
            · cases hv
            · cases hv
              exact (show Blk w2 g _ cur from hh).frozen _
          clear HSAME HSUCC HCS hput hB3
          go_wp2
          refine ⟨⟨k + 1, by omega, by rw [HC1.out]; go_num, by go_num, HX1, HY3, HB4.out⟩, by simp [intOf]; omega⟩
    · obtain rfl : k = st.sc.length := by omega
      have HC1 : Hid (voidC (mendP s.tk po) (st.sc.take st.sc.length) = voidC (mendP s.tk po) st.sc) := Lib.hid (by rw [List.take_length])
      have HX1 : Hid (Isp s m B base bx a { st with sc := voidL (mendP s.tk po) st.sc } wr) := Lib.hid (by rw [← voidK_all]; exact HX.out)
      go_wp2
      go_ret
      exact ⟨by rw [← HC1.out]; rfl, HX1.out, hBr⟩
end Go.Proofs.YtmdbpkomanhpoaaGreatDoor
