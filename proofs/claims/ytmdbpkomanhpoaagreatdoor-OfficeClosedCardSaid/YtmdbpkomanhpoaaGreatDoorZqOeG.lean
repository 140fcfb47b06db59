/- A mark decided (inspection.decide). A mark decided: the walk (inspection.decide). -/
import Derived.Test.YtmdbpkomanhpoaaGreatDoorZqOeE
namespace Go.Proofs.YtmdbpkomanhpoaaGreatDoor
open Go.RowKit Go.Lib

theorem idxV_some {α : Type} {P : α → Bool} {l : List α} {k : Nat} (h : idxV P l = (k : Int)) : l.findIdx? P = some k := by
  unfold idxV at h
  cases h1 : l.findIdx? P with
  | none => rw [h1] at h; simp at h
  | some j =>
    rw [h1] at h
    obtain rfl : j = k := Int.ofNat.inj h
    rfl
theorem idxV_no {α : Type} {P : α → Bool} {l : List α} (h : idxV P l = -1) : l.findIdx? P = none := by
  unfold idxV at h
  cases h1 : l.findIdx? P with
  | none => rfl
  | some j => rw [h1] at h; simp only at h; omega
/-- The number of a mark with a name. -/
def mkIx (st : In) (nm : ByteArray) : Option Nat := st.ms.findIdx? fun p => sameB p.nm nm
/-- The error of a decision, and the state behind it. -/
def deciE (s : Se) (st : In) (bb nm : ByteArray) : Int := match mkIx st nm with
  | none => 6
  | some k => match st.ms[k]? with
    | none => 6
    | some x => if x.sta ≠ 0 then 24 else if sameB x.bb bb = true then 13 else (decE s.cd x.q).2.2
def deciS (s : Se) (st : In) (bb nm : ByteArray) : In := match mkIx st nm with
  | none => st
  | some k => match st.ms[k]? with
    | none => st
    | some x => { st with ms := st.ms.set k { x with sta := 1, row := (decE s.cd x.q).1, dec := (decE s.cd x.q).2.1, sec := bb } }
theorem mkRow_put {w : World} {base g n cap k : Nat} {q : List Mk} (h : w.ownsRow base 95 13 (.slice (some ⟨g, 0, none⟩) n cap) n (rowsC mkF q)) (hk : k < q.length) (hn : q.length = n) (r d : Int) (sec : ByteArray) :
    ((((w.setCell ⟨g, k * 13 + 9, none⟩ (.int .i64 1)).setCell ⟨g, k * 13 + 10, none⟩ (.int .i64 r)).setCell ⟨g, k * 13 + 11, none⟩ (.int .i64 d)).setCell ⟨g, k * 13 + 12, none⟩ (.string sec)).ownsRow base 95 13 (.slice (some ⟨g, 0, none⟩) n cap) n (rowsC mkF (q.set k { q[k] with sta := 1, row := r, dec := d, sec := sec })) := by
  have h0 := own_put h (j := k * 13 + 9) (by omega) (.int .i64 1)
  rw [rowsC_set mkF_len q k hk 9 (by omega) (.int .i64 1) { q[k] with sta := 1 } rfl] at h0
  have h1 := own_put h0 (j := k * 13 + 10) (by omega) (.int .i64 r)
  rw [rowsC_set mkF_len _ k (by simpa using hk) 10 (by omega) (.int .i64 r) { q[k] with sta := 1, row := r } (by rw [List.getElem_set_self]; rfl), List.set_set] at h1
  have h2 := own_put h1 (j := k * 13 + 11) (by omega) (.int .i64 d)
  rw [rowsC_set mkF_len _ k (by simpa using hk) 11 (by omega) (.int .i64 d) { q[k] with sta := 1, row := r, dec := d } (by rw [List.getElem_set_self]; rfl), List.set_set] at h2
  have h3 := own_put h2 (j := k * 13 + 12) (by omega) (.string sec)
  rw [rowsC_set mkF_len _ k (by simpa using hk) 12 (by omega) (.string sec) { q[k] with sta := 1, row := r, dec := d, sec := sec } (by rw [List.getElem_set_self]; rfl), List.set_set] at h3
  exact h3
/-- A store into the row of marks keeps the rest. -/
theorem Isp.msPut {s : Se} {m : Me} {B base bx g : Nat} {a : Ia} {st : In} {l : List Mk} {w w' : World} (h : Isp s m B base bx a st w) (hA : a.mA = some ⟨g, 0, none⟩) (hg : w.grownBy w' (some g)) (hl : l.length = st.ms.length) (hv : w'.ownsRow base 95 13 (.slice a.mA st.ms.length a.mc) st.ms.length (rowsC mkF l)) :
    Isp s m B base bx a { st with ms := l } w' := by
  have he : (Value.slice a.mA st.ms.length a.mc).ownBlock = some g := by rw [hA]; rfl
  rw [← he] at hg
  have hb : Below base w w' := (Below.refl base w).grown hg (Nat.le_trans h.lo (Nat.le_of_lt h.blk.lt)) (fun r e => (h.ms.lt r e).1)
  refine ⟨h.set.below hb h.le, ?_, own_while h.ev h.ms (by decide) hg, own_while h.sc h.ms (by decide) hg, by simp only [hl]; exact hv, h.le, h.lo, ⟨h.lim.ev, h.lim.sc, by show l.length ≤ 10; rw [hl]; exact h.lim.ms, h.lim.pos⟩⟩
  have := h.blk.grown hg (own_ne_blk h.ms h.blk (by decide)).symm
  unfold inC at this ⊢
  simp only [hl]
  exact this
end Go.Proofs.YtmdbpkomanhpoaaGreatDoor

namespace Go.Proofs.YtmdbpkomanhpoaaGreatDoor
open Go.RowKit Go.Lib

set_option maxRecDepth 100000 in
set_option maxHeartbeats 4000000 in
theorem insDecide_any (s : Se) (m : Me) (B base bx : Nat) (a : Ia) (st : In) (bb nm : ByteArray) (A : Option Addr) (c C : Nat) (w : World) (h : Isp s m B base bx a st w) (hw : WsOk [nm] A c C w) (hQ : Quant w) (hT : Tz w) :
    Calls Tryz.prog 68 #[.pointer (some ⟨bx, 0, none⟩), .string bb, .slice A 1 c] w fun e w' => StepR s m B base bx a st (deciE s st bb nm) (deciS s st bb nm) e w' ∧ Below base w w' := by
  have HI := Lib.hid h
  have hbw : base ≤ w.heap.size := Nat.le_trans h.lo (Nat.le_of_lt h.blk.lt)
  obtain ⟨gw, ow, hA, hgw, x0⟩ := strRow_at hw.row (k := 0) (by simp)
  subst hA
  have hgw2 : gw < w.heap.size := Nat.lt_of_lt_of_le hgw hw.base
  have HF := Lib.hid (find_any s m B base bx a st nm w h)
  have HQ := Lib.hid hQ; have HT := Lib.hid hT
  clear h hw hQ hT hgw
  simp only [List.getElem_cons_zero, Nat.add_zero] at x0
  have HE : Hid (deciE s st bb nm = match mkIx st nm with
    | none => 6
    | some k => match st.ms[k]? with
      | none => 6
      | some x => if x.sta ≠ 0 then 24 else if sameB x.bb bb = true then 13 else (decE s.cd x.q).2.2) := Lib.hid rfl
  have HST : Hid (deciS s st bb nm = match mkIx st nm with
    | none => st
    | some k => match st.ms[k]? with
      | none => st
      | some x => { st with ms := st.ms.set k { x with sta := 1, row := (decE s.cd x.q).1, dec := (decE s.cd x.q).2.1, sec := bb } }) := Lib.hid rfl
  generalize deciE s st bb nm = E at *
  generalize deciS s st bb nm = st' at *
  go_enter Tryz.func68, Tryz.ntmps68
  go_wp2_with fail
  refine HF.out.mono ?_
  rintro e wn ⟨hR, hB1⟩
  clear x0 hgw2 HF
  have HX := Lib.hid (HI.out.below hB1 (Nat.le_refl _))
  rcases hR with ⟨n0, rfl⟩ | ⟨k, g, hk, n1, _, hmA, rfl⟩
  · have hi0 : mkIx st nm = none := idxV_no n0
    rw [hi0] at HE
    clear n0 hi0
    go_wp2
    go_ret
    exact ⟨⟨by rw [HE.out]; rfl, fun _ => HX.out, fun e => by rw [HE.out] at e; cases e⟩, hB1.mono hbw⟩
  have hi1 : mkIx st nm = some k := idxV_some n1
  rw [hi1] at HE HST
  have hk1 : st.ms[k]? = some st.ms[k] := List.getElem?_eq_getElem hk
  simp only [hk1] at HE HST
  clear n1 hi1 hk1
  obtain ⟨g', o', hA', hg', y0, y1, y2, y3, y4, y5, y6, y7, y8, y9, y10, y11, y12⟩ := (own_row_ HX.out.ms).at13 mkF_len hk rfl
  rw [hmA] at hA'
  injection hA' with hA'
  injection hA' with hA1 hA2 _
  subst hA1
  subst hA2
  simp only [Nat.zero_add] at y0 y1 y2 y3 y4 y5 y6 y7 y8 y9 y10 y11 y12
  have HMA := Lib.hid hmA
  have HSET : Hid (∀ (r d : Int) (W : World), Isp s m B base bx a st W → Isp s m B base bx a { st with ms := st.ms.set k { st.ms[k] with sta := 1, row := r, dec := d, sec := bb } } ((((W.setCell ⟨g, k * 13 + 9, none⟩ (.int .i64 1)).setCell ⟨g, k * 13 + 10, none⟩ (.int .i64 r)).setCell ⟨g, k * 13 + 11, none⟩ (.int .i64 d)).setCell ⟨g, k * 13 + 12, none⟩ (.string bb)) ∧ Below base W ((((W.setCell ⟨g, k * 13 + 9, none⟩ (.int .i64 1)).setCell ⟨g, k * 13 + 10, none⟩ (.int .i64 r)).setCell ⟨g, k * 13 + 11, none⟩ (.int .i64 d)).setCell ⟨g, k * 13 + 12, none⟩ (.string bb)) ∧ ∀ i, W.frozen? ⟨g, i, none⟩ = false) := Lib.hid fun r d W hI => by
    have hms := hI.ms
    rw [HMA.out] at hms
    have hput := mkRow_put hms hk rfl r d bb
    have hgr : W.grownBy ((((W.setCell ⟨g, k * 13 + 9, none⟩ (.int .i64 1)).setCell ⟨g, k * 13 + 10, none⟩ (.int .i64 r)).setCell ⟨g, k * 13 + 11, none⟩ (.int .i64 d)).setCell ⟨g, k * 13 + 12, none⟩ (.string bb)) (some g) :=
      only_setCell (only_setCell (only_setCell (only_setCell (World.grownBy.refl W (some g)) (.inl rfl) _) (.inl rfl) _) (.inl rfl) _) (.inl rfl) _
    refine ⟨hI.msPut HMA.out hgr (by simp) (by rw [HMA.out]; exact hput), (Below.refl base W).grown hgr (Nat.le_trans hI.lo (Nat.le_of_lt hI.blk.lt)) (fun r e => by cases e; exact (hms.lt _ rfl).1), fun i => ?_⟩
    obtain ⟨_, ⟨hv, _⟩ | ⟨g2, cap', cur, hv, hb, hh, _⟩⟩ := hms
    · cases hv
    · cases hv
      exact (show Blk W g _ cur from hh).frozen i
  have hgB : base ≤ g := by
    have hms := HX.out.ms
    rw [hmA] at hms
    exact (hms.lt _ rfl).1
  clear hmA
  obtain ⟨x, hx⟩ : ∃ x, st.ms[k] = x := ⟨_, rfl⟩
  rw [hx] at y0 y1 y2 y3 y4 y5 y6 y7 y8 y9 y10 y11 y12 HE HST HSET
  clear hx
  obtain ⟨xn, xb, xp, xq, xs, xr, xd, xe⟩ := x
  dsimp only at y0 y1 y2 y3 y4 y5 y6 y7 y8 y9 y10 y11 y12
  by_cases h0 : xs = 0
  · replace HE := Lib.hid (HE.out.trans (if_neg (by simpa using h0)))
    subst h0
    obtain ⟨q, hq⟩ : ∃ q, sameB xb bb = q := ⟨_, rfl⟩
    have hq1 := hq
    unfold sameB at hq1
    cases q
    · replace HE := Lib.hid (HE.out.trans (if_neg (by simp [hq])))
      clear hq
      go_upto_region 8 with fail
      obtain ⟨c0, c1, c2, c3, c4, c5, c6, c7, c8, c9, c10, c11, c12, c13, c14, c15, c16, cf⟩ := blk17 HX.out.blk
      have lb := HX.out.blk.lt
      clear c0 c4 c5 c6 c7 c8 c9 c10 c11 c12 c13 c14 c15 c16 cf y0 y1 y2 y9 y10 y11 y12
      have HDE : Hid (∀ W, Below wn.heap.size wn W → Calls Tryz.prog 105 #[.agg #[.string s.cd.nm, .slice m.eA s.cd.ex.length m.ec, .slice m.rA s.cd.rows.length m.rc], .agg (mkM xq)] W fun e w' => e = .returned (.tuple #[.int .i64 (decE s.cd xq).1, .int .i64 (decE s.cd xq).2.1, .int .i64 (decE s.cd xq).2.2]) ∧ Below W.heap.size W w') := Lib.hid fun W hW => by
        have hBW := hB1.trans (hW.mono hB1.size)
        exact decide_any s.cd m.eA m.ec m.rA m.rc B xq W ((HX.out.set.below hW HX.out.set.base).cd) (HQ.out.below hBW (Nat.le_refl _)) (HT.out.below hBW (Nat.le_refl _))
      unfold mkM at HDE
      refine wp_region_w (Gr _) (by kernel_rfl) (Below.refl _ _).drew ?_
      refine wpW_det (t' := ?ct0R13) 0 (by rfl) (by kernel_rfl) (NQ_free _) (by kernel_rfl) ?cw0R13 ?ch0R13 ?ca0R13 (Eq.refl _) ?cH0R13
      case cw0R13 => (go_simp; done)
      case ch0R13 =>
        intro ds w' hS K hK
        have hc := (bcell hS).1
        have hf := (bcell hS).2
        have hz := hS.size
        try simp at hz
        go_simp
        try go_bits
        first
          | exact hK _ hS (Gr.refl _)
          | exact hK _ (by repeat (first | (with_reducible exact Below.refl _ _) | (with_reducible assumption) | ((with_reducible refine Below.setCell ?_ ?_ _); rotate_left; · (first | exact Nat.le_refl _ | (simp; done) | (simp; omega) | omega)) | ((with_reducible refine Below.alloc ?_ ?_ _); rotate_left; · (first | exact Nat.le_refl _ | (simp; done) | (simp; omega) | omega)) | (with_reducible apply Below.drew) | (with_reducible apply below_drewN') | (refine Below.trans ?_ (Below.mono (by assumption) (by first | exact Nat.le_refl _ | (simp; done) | (simp; omega) | omega))) | exact Below.refl _ _ | assumption)) (by repeat (first | (with_reducible exact Below.refl _ _) | (with_reducible assumption) | ((with_reducible refine Below.setCell ?_ ?_ _); rotate_left; · (first | exact Nat.le_refl _ | (simp; done) | (simp; omega) | omega)) | ((with_reducible refine Below.alloc ?_ ?_ _); rotate_left; · (first | exact Nat.le_refl _ | (simp; done) | (simp; omega) | omega)) | (with_reducible apply Below.drew) | (with_reducible apply below_drewN') | (refine Below.trans ?_ (Below.mono (by assumption) (by first | exact Nat.le_refl _ | (simp; done) | (simp; omega) | omega))) | exact Below.refl _ _ | assumption))
      case ca0R13 => (first | (simp [Act.put]; done) | (simp [Act.put, *]; done))
      try dsimp only
      refine wpW_det (t' := ?ct1R13) 1 (by rfl) (by kernel_rfl) (NQ_free _) (by kernel_rfl) ?cw1R13 ?ch1R13 ?ca1R13 (Eq.refl _) ?cH1R13
      case cw1R13 => (go_simp; done)
      case ch1R13 =>
        intro ds w' hS K hK
        have hc := (bcell hS).1
        have hf := (bcell hS).2
        have hz := hS.size
        try simp at hz
        go_simp
        try go_bits
        first
          | exact hK _ hS (Gr.refl _)
          | exact hK _ (by repeat (first | (with_reducible exact Below.refl _ _) | (with_reducible assumption) | ((with_reducible refine Below.setCell ?_ ?_ _); rotate_left; · (first | exact Nat.le_refl _ | (simp; done) | (simp; omega) | omega)) | ((with_reducible refine Below.alloc ?_ ?_ _); rotate_left; · (first | exact Nat.le_refl _ | (simp; done) | (simp; omega) | omega)) | (with_reducible apply Below.drew) | (with_reducible apply below_drewN') | (refine Below.trans ?_ (Below.mono (by assumption) (by first | exact Nat.le_refl _ | (simp; done) | (simp; omega) | omega))) | exact Below.refl _ _ | assumption)) (by repeat (first | (with_reducible exact Below.refl _ _) | (with_reducible assumption) | ((with_reducible refine Below.setCell ?_ ?_ _); rotate_left; · (first | exact Nat.le_refl _ | (simp; done) | (simp; omega) | omega)) | ((with_reducible refine Below.alloc ?_ ?_ _); rotate_left; · (first | exact Nat.le_refl _ | (simp; done) | (simp; omega) | omega)) | (with_reducible apply Below.drew) | (with_reducible apply below_drewN') | (refine Below.trans ?_ (Below.mono (by assumption) (by first | exact Nat.le_refl _ | (simp; done) | (simp; omega) | omega))) | exact Below.refl _ _ | assumption))
      case ca1R13 => (first | (simp [Act.put]; done) | (simp [Act.put, *]; done))
      try dsimp only
      refine wpW_det (t' := ?ct2R13) 2 (by rfl) (by kernel_rfl) (NQ_free _) (by kernel_rfl) ?cw2R13 ?ch2R13 ?ca2R13 (Eq.refl _) ?cH2R13
      case cw2R13 => (go_simp; done)
      case ch2R13 =>
        intro ds w' hS K hK
        have hc := (bcell hS).1
        have hf := (bcell hS).2
        have hz := hS.size
        try simp at hz
        go_simp
        try go_bits
        first
          | exact hK _ hS (Gr.refl _)
          | exact hK _ (by repeat (first | (with_reducible exact Below.refl _ _) | (with_reducible assumption) | ((with_reducible refine Below.setCell ?_ ?_ _); rotate_left; · (first | exact Nat.le_refl _ | (simp; done) | (simp; omega) | omega)) | ((with_reducible refine Below.alloc ?_ ?_ _); rotate_left; · (first | exact Nat.le_refl _ | (simp; done) | (simp; omega) | omega)) | (with_reducible apply Below.drew) | (with_reducible apply below_drewN') | (refine Below.trans ?_ (Below.mono (by assumption) (by first | exact Nat.le_refl _ | (simp; done) | (simp; omega) | omega))) | exact Below.refl _ _ | assumption)) (by repeat (first | (with_reducible exact Below.refl _ _) | (with_reducible assumption) | ((with_reducible refine Below.setCell ?_ ?_ _); rotate_left; · (first | exact Nat.le_refl _ | (simp; done) | (simp; omega) | omega)) | ((with_reducible refine Below.alloc ?_ ?_ _); rotate_left; · (first | exact Nat.le_refl _ | (simp; done) | (simp; omega) | omega)) | (with_reducible apply Below.drew) | (with_reducible apply below_drewN') | (refine Below.trans ?_ (Below.mono (by assumption) (by first | exact Nat.le_refl _ | (simp; done) | (simp; omega) | omega))) | exact Below.refl _ _ | assumption))
      case ca2R13 => (first | (simp [Act.put]; done) | (simp [Act.put, *]; done))
      try dsimp only
      refine wpW_det (t' := ?ct3R13) 3 (by rfl) (by kernel_rfl) (NQ_free _) (by kernel_rfl) ?cw3R13 ?ch3R13 ?ca3R13 (Eq.refl _) ?cH3R13
      case cw3R13 => (go_simp; done)
      case ch3R13 =>
        intro ds w' hS K hK
        have hc := (bcell hS).1
        have hf := (bcell hS).2
        have hz := hS.size
        try simp at hz
        go_simp
        try go_bits
        first
          | exact hK _ hS (Gr.refl _)
          | exact hK _ (by repeat (first | (with_reducible exact Below.refl _ _) | (with_reducible assumption) | ((with_reducible refine Below.setCell ?_ ?_ _); rotate_left; · (first | exact Nat.le_refl _ | (simp; done) | (simp; omega) | omega)) | ((with_reducible refine Below.alloc ?_ ?_ _); rotate_left; · (first | exact Nat.le_refl _ | (simp; done) | (simp; omega) | omega)) | (with_reducible apply Below.drew) | (with_reducible apply below_drewN') | (refine Below.trans ?_ (Below.mono (by assumption) (by first | exact Nat.le_refl _ | (simp; done) | (simp; omega) | omega))) | exact Below.refl _ _ | assumption)) (by repeat (first | (with_reducible exact Below.refl _ _) | (with_reducible assumption) | ((with_reducible refine Below.setCell ?_ ?_ _); rotate_left; · (first | exact Nat.le_refl _ | (simp; done) | (simp; omega) | omega)) | ((with_reducible refine Below.alloc ?_ ?_ _); rotate_left; · (first | exact Nat.le_refl _ | (simp; done) | (simp; omega) | omega)) | (with_reducible apply Below.drew) | (with_reducible apply below_drewN') | (refine Below.trans ?_ (Below.mono (by assumption) (by first | exact Nat.le_refl _ | (simp; done) | (simp; omega) | omega))) | exact Below.refl _ _ | assumption))
      case ca3R13 => (first | (simp [Act.put]; done) | (simp [Act.put, *]; done))
      try dsimp only
      refine wpW_det (t' := ?ct4R13) 4 (by rfl) (by kernel_rfl) (NQ_free _) (by kernel_rfl) ?cw4R13 ?ch4R13 ?ca4R13 (Eq.refl _) ?cH4R13
      case cw4R13 => (go_simp; done)
      case ch4R13 =>
        intro ds w' hS K hK
        have hc := (bcell hS).1
        have hf := (bcell hS).2
        have hz := hS.size
        try simp at hz
        go_simp
        try go_bits
        first
          | exact hK _ hS (Gr.refl _)
          | exact hK _ (by repeat (first | (with_reducible exact Below.refl _ _) | (with_reducible assumption) | ((with_reducible refine Below.setCell ?_ ?_ _); rotate_left; · (first | exact Nat.le_refl _ | (simp; done) | (simp; omega) | omega)) | ((with_reducible refine Below.alloc ?_ ?_ _); rotate_left; · (first | exact Nat.le_refl _ | (simp; done) | (simp; omega) | omega)) | (with_reducible apply Below.drew) | (with_reducible apply below_drewN') | (refine Below.trans ?_ (Below.mono (by assumption) (by first | exact Nat.le_refl _ | (simp; done) | (simp; omega) | omega))) | exact Below.refl _ _ | assumption)) (by repeat (first | (with_reducible exact Below.refl _ _) | (with_reducible assumption) | ((with_reducible refine Below.setCell ?_ ?_ _); rotate_left; · (first | exact Nat.le_refl _ | (simp; done) | (simp; omega) | omega)) | ((with_reducible refine Below.alloc ?_ ?_ _); rotate_left; · (first | exact Nat.le_refl _ | (simp; done) | (simp; omega) | omega)) | (with_reducible apply Below.drew) | (with_reducible apply below_drewN') | (refine Below.trans ?_ (Below.mono (by assumption) (by first | exact Nat.le_refl _ | (simp; done) | (simp; omega) | omega))) | exact Below.refl _ _ | assumption))
      case ca4R13 => (first | (simp [Act.put]; done) | (simp [Act.put, *]; done))
      try dsimp only
      refine wpW_det (t' := ?ct5R13) 5 (by rfl) (by kernel_rfl) (NQ_free _) (by kernel_rfl) ?cw5R13 ?ch5R13 ?ca5R13 (Eq.refl _) ?cH5R13
      case cw5R13 => (go_simp; done)
      case ch5R13 =>
        intro ds w' hS K hK
        have hc := (bcell hS).1
        have hf := (bcell hS).2
        have hz := hS.size
        try simp at hz
        go_simp
        try go_bits
        first
          | exact hK _ hS (Gr.refl _)
          | exact hK _ (by repeat (first | (with_reducible exact Below.refl _ _) | (with_reducible assumption) | ((with_reducible refine Below.setCell ?_ ?_ _); rotate_left; · (first | exact Nat.le_refl _ | (simp; done) | (simp; omega) | omega)) | ((with_reducible refine Below.alloc ?_ ?_ _); rotate_left; · (first | exact Nat.le_refl _ | (simp; done) | (simp; omega) | omega)) | (with_reducible apply Below.drew) | (with_reducible apply below_drewN') | (refine Below.trans ?_ (Below.mono (by assumption) (by first | exact Nat.le_refl _ | (simp; done) | (simp; omega) | omega))) | exact Below.refl _ _ | assumption)) (by repeat (first | (with_reducible exact Below.refl _ _) | (with_reducible assumption) | ((with_reducible refine Below.setCell ?_ ?_ _); rotate_left; · (first | exact Nat.le_refl _ | (simp; done) | (simp; omega) | omega)) | ((with_reducible refine Below.alloc ?_ ?_ _); rotate_left; · (first | exact Nat.le_refl _ | (simp; done) | (simp; omega) | omega)) | (with_reducible apply Below.drew) | (with_reducible apply below_drewN') | (refine Below.trans ?_ (Below.mono (by assumption) (by first | exact Nat.le_refl _ | (simp; done) | (simp; omega) | omega))) | exact Below.refl _ _ | assumption))
      case ca5R13 => (first | (simp [Act.put]; done) | (simp [Act.put, *]; done))
      try dsimp only
      refine wpW_det (t' := ?ct6R13) 6 (by rfl) (by kernel_rfl) (NQ_free _) (by kernel_rfl) ?cw6R13 ?ch6R13 ?ca6R13 (Eq.refl _) ?cH6R13
      case cw6R13 => (go_simp; done)
      case ch6R13 =>
        intro ds w' hS K hK
        have hc := (bcell hS).1
        have hf := (bcell hS).2
        have hz := hS.size
        try simp at hz
        go_simp
        try go_bits
        first
          | exact hK _ hS (Gr.refl _)
          | exact hK _ (by repeat (first | (with_reducible exact Below.refl _ _) | (with_reducible assumption) | ((with_reducible refine Below.setCell ?_ ?_ _); rotate_left; · (first | exact Nat.le_refl _ | (simp; done) | (simp; omega) | omega)) | ((with_reducible refine Below.alloc ?_ ?_ _); rotate_left; · (first | exact Nat.le_refl _ | (simp; done) | (simp; omega) | omega)) | (with_reducible apply Below.drew) | (with_reducible apply below_drewN') | (refine Below.trans ?_ (Below.mono (by assumption) (by first | exact Nat.le_refl _ | (simp; done) | (simp; omega) | omega))) | exact Below.refl _ _ | assumption)) (by repeat (first | (with_reducible exact Below.refl _ _) | (with_reducible assumption) | ((with_reducible refine Below.setCell ?_ ?_ _); rotate_left; · (first | exact Nat.le_refl _ | (simp; done) | (simp; omega) | omega)) | ((with_reducible refine Below.alloc ?_ ?_ _); rotate_left; · (first | exact Nat.le_refl _ | (simp; done) | (simp; omega) | omega)) | (with_reducible apply Below.drew) | (with_reducible apply below_drewN') | (refine Below.trans ?_ (Below.mono (by assumption) (by first | exact Nat.le_refl _ | (simp; done) | (simp; omega) | omega))) | exact Below.refl _ _ | assumption))
      case ca6R13 => (first | (simp [Act.put]; done) | (simp [Act.put, *]; done))
      try dsimp only
      refine wpW_det (t' := ?ct7R13) 7 (by rfl) (by kernel_rfl) (NQ_free _) (by kernel_rfl) ?cw7R13 ?ch7R13 ?ca7R13 (Eq.refl _) ?cH7R13
      case cw7R13 => (go_simp; done)
      case ch7R13 =>
        intro ds w' hS K hK
        have hc := (bcell hS).1
        have hf := (bcell hS).2
        have hz := hS.size
        try simp at hz
        go_simp
        try go_bits
        first
          | exact hK _ hS (Gr.refl _)
          | exact hK _ (by repeat (first | (with_reducible exact Below.refl _ _) | (with_reducible assumption) | ((with_reducible refine Below.setCell ?_ ?_ _); rotate_left; · (first | exact Nat.le_refl _ | (simp; done) | (simp; omega) | omega)) | ((with_reducible refine Below.alloc ?_ ?_ _); rotate_left; · (first | exact Nat.le_refl _ | (simp; done) | (simp; omega) | omega)) | (with_reducible apply Below.drew) | (with_reducible apply below_drewN') | (refine Below.trans ?_ (Below.mono (by assumption) (by first | exact Nat.le_refl _ | (simp; done) | (simp; omega) | omega))) | exact Below.refl _ _ | assumption)) (by repeat (first | (with_reducible exact Below.refl _ _) | (with_reducible assumption) | ((with_reducible refine Below.setCell ?_ ?_ _); rotate_left; · (first | exact Nat.le_refl _ | (simp; done) | (simp; omega) | omega)) | ((with_reducible refine Below.alloc ?_ ?_ _); rotate_left; · (first | exact Nat.le_refl _ | (simp; done) | (simp; omega) | omega)) | (with_reducible apply Below.drew) | (with_reducible apply below_drewN') | (refine Below.trans ?_ (Below.mono (by assumption) (by first | exact Nat.le_refl _ | (simp; done) | (simp; omega) | omega))) | exact Below.refl _ _ | assumption))
      case ca7R13 => (first | (simp [Act.put]; done) | (simp [Act.put, *]; done))
      try dsimp only
      refine wpW_det (t' := ?ct8R13) 8 (by rfl) (by kernel_rfl) (NQ_free _) (by kernel_rfl) ?cw8R13 ?ch8R13 ?ca8R13 (Eq.refl _) ?cH8R13
      case cw8R13 => (go_simp; done)
      case ch8R13 =>
        intro ds w' hS K hK
        have hc := (bcell hS).1
        have hf := (bcell hS).2
        have hz := hS.size
        try simp at hz
        go_simp
        try go_bits
        first
          | exact hK _ hS (Gr.refl _)
          | exact hK _ (by repeat (first | (with_reducible exact Below.refl _ _) | (with_reducible assumption) | ((with_reducible refine Below.setCell ?_ ?_ _); rotate_left; · (first | exact Nat.le_refl _ | (simp; done) | (simp; omega) | omega)) | ((with_reducible refine Below.alloc ?_ ?_ _); rotate_left; · (first | exact Nat.le_refl _ | (simp; done) | (simp; omega) | omega)) | (with_reducible apply Below.drew) | (with_reducible apply below_drewN') | (refine Below.trans ?_ (Below.mono (by assumption) (by first | exact Nat.le_refl _ | (simp; done) | (simp; omega) | omega))) | exact Below.refl _ _ | assumption)) (by repeat (first | (with_reducible exact Below.refl _ _) | (with_reducible assumption) | ((with_reducible refine Below.setCell ?_ ?_ _); rotate_left; · (first | exact Nat.le_refl _ | (simp; done) | (simp; omega) | omega)) | ((with_reducible refine Below.alloc ?_ ?_ _); rotate_left; · (first | exact Nat.le_refl _ | (simp; done) | (simp; omega) | omega)) | (with_reducible apply Below.drew) | (with_reducible apply below_drewN') | (refine Below.trans ?_ (Below.mono (by assumption) (by first | exact Nat.le_refl _ | (simp; done) | (simp; omega) | omega))) | exact Below.refl _ _ | assumption))
      case ca8R13 => (first | (simp [Act.put]; done) | (simp [Act.put, *]; done))
      try dsimp only
      clear c1 c2 c3 lb y3 y4 y5 y6 y7 y8
      refine wpW_branch [9] (by kernel_rfl) (by simp) ?_
      intro u9 hg_u9 hS_u9
      refine each_cons ?_ each_nil
      refine wpOp_go (by rfl) (Eq.refl _) (by go_simp; done) ?_
      intro K hK
      go_simp
      try simp only [Act.put]
      refine (HDE.out _ hS_u9).mono ?_
      rintro e wq ⟨rfl, hBq⟩
      refine hK _ _ (Below.trans hS_u9 (hBq.mono (Below.size hS_u9))) ?_
      clear hK K hBq
      refine wpW_det (t' := ?ct10R14) 10 (by rfl) (by kernel_rfl) (NQ_free _) (by kernel_rfl) ?cw10R14 ?ch10R14 ?ca10R14 (Eq.refl _) ?cH10R14
      case cw10R14 => (go_simp; done)
      case ch10R14 =>
        intro ds w' hS K hK
        have hc := (bcell hS).1
        have hf := (bcell hS).2
        have hz := hS.size
        try simp at hz
        go_simp
        try go_bits
        first
          | exact hK _ hS (Gr.refl _)
          | exact hK _ (by repeat (first | (with_reducible exact Below.refl _ _) | (with_reducible assumption) | ((with_reducible refine Below.setCell ?_ ?_ _); rotate_left; · (first | exact Nat.le_refl _ | (simp; done) | (simp; omega) | omega)) | ((with_reducible refine Below.alloc ?_ ?_ _); rotate_left; · (first | exact Nat.le_refl _ | (simp; done) | (simp; omega) | omega)) | (with_reducible apply Below.drew) | (with_reducible apply below_drewN') | (refine Below.trans ?_ (Below.mono (by assumption) (by first | exact Nat.le_refl _ | (simp; done) | (simp; omega) | omega))) | exact Below.refl _ _ | assumption)) (by repeat (first | (with_reducible exact Below.refl _ _) | (with_reducible assumption) | ((with_reducible refine Below.setCell ?_ ?_ _); rotate_left; · (first | exact Nat.le_refl _ | (simp; done) | (simp; omega) | omega)) | ((with_reducible refine Below.alloc ?_ ?_ _); rotate_left; · (first | exact Nat.le_refl _ | (simp; done) | (simp; omega) | omega)) | (with_reducible apply Below.drew) | (with_reducible apply below_drewN') | (refine Below.trans ?_ (Below.mono (by assumption) (by first | exact Nat.le_refl _ | (simp; done) | (simp; omega) | omega))) | exact Below.refl _ _ | assumption))
      case ca10R14 => (first | (simp [Act.put]; done) | (simp [Act.put, *]; done))
      try dsimp only
      refine wpW_det (t' := ?ct11R14) 11 (by rfl) (by kernel_rfl) (NQ_free _) (by kernel_rfl) ?cw11R14 ?ch11R14 ?ca11R14 (Eq.refl _) ?cH11R14
      case cw11R14 => (go_simp; done)
      case ch11R14 =>
        intro ds w' hS K hK
        have hc := (bcell hS).1
        have hf := (bcell hS).2
        have hz := hS.size
        try simp at hz
        go_simp
        try go_bits
        first
          | exact hK _ hS (Gr.refl _)
          | exact hK _ (by repeat (first | (with_reducible exact Below.refl _ _) | (with_reducible assumption) | ((with_reducible refine Below.setCell ?_ ?_ _); rotate_left; · (first | exact Nat.le_refl _ | (simp; done) | (simp; omega) | omega)) | ((with_reducible refine Below.alloc ?_ ?_ _); rotate_left; · (first | exact Nat.le_refl _ | (simp; done) | (simp; omega) | omega)) | (with_reducible apply Below.drew) | (with_reducible apply below_drewN') | (refine Below.trans ?_ (Below.mono (by assumption) (by first | exact Nat.le_refl _ | (simp; done) | (simp; omega) | omega))) | exact Below.refl _ _ | assumption)) (by repeat (first | (with_reducible exact Below.refl _ _) | (with_reducible assumption) | ((with_reducible refine Below.setCell ?_ ?_ _); rotate_left; · (first | exact Nat.le_refl _ | (simp; done) | (simp; omega) | omega)) | ((with_reducible refine Below.alloc ?_ ?_ _); rotate_left; · (first | exact Nat.le_refl _ | (simp; done) | (simp; omega) | omega)) | (with_reducible apply Below.drew) | (with_reducible apply below_drewN') | (refine Below.trans ?_ (Below.mono (by assumption) (by first | exact Nat.le_refl _ | (simp; done) | (simp; omega) | omega))) | exact Below.refl _ _ | assumption))
      case ca11R14 => (first | (simp [Act.put]; done) | (simp [Act.put, *]; done))
      try dsimp only
      refine wpW_det (t' := ?ct12R14) 12 (by rfl) (by kernel_rfl) (NQ_free _) (by kernel_rfl) ?cw12R14 ?ch12R14 ?ca12R14 (Eq.refl _) ?cH12R14
      case cw12R14 => (go_simp; done)
      case ch12R14 =>
        intro ds w' hS K hK
        have hc := (bcell hS).1
        have hf := (bcell hS).2
        have hz := hS.size
        try simp at hz
        go_simp
        try go_bits
        first
          | exact hK _ hS (Gr.refl _)
          | exact hK _ (by repeat (first | (with_reducible exact Below.refl _ _) | (with_reducible assumption) | ((with_reducible refine Below.setCell ?_ ?_ _); rotate_left; · (first | exact Nat.le_refl _ | (simp; done) | (simp; omega) | omega)) | ((with_reducible refine Below.alloc ?_ ?_ _); rotate_left; · (first | exact Nat.le_refl _ | (simp; done) | (simp; omega) | omega)) | (with_reducible apply Below.drew) | (with_reducible apply below_drewN') | (refine Below.trans ?_ (Below.mono (by assumption) (by first | exact Nat.le_refl _ | (simp; done) | (simp; omega) | omega))) | exact Below.refl _ _ | assumption)) (by repeat (first | (with_reducible exact Below.refl _ _) | (with_reducible assumption) | ((with_reducible refine Below.setCell ?_ ?_ _); rotate_left; · (first | exact Nat.le_refl _ | (simp; done) | (simp; omega) | omega)) | ((with_reducible refine Below.alloc ?_ ?_ _); rotate_left; · (first | exact Nat.le_refl _ | (simp; done) | (simp; omega) | omega)) | (with_reducible apply Below.drew) | (with_reducible apply below_drewN') | (refine Below.trans ?_ (Below.mono (by assumption) (by first | exact Nat.le_refl _ | (simp; done) | (simp; omega) | omega))) | exact Below.refl _ _ | assumption))
      case ca12R14 => (first | (simp [Act.put]; done) | (simp [Act.put, *]; done))
      try dsimp only
      refine wpW_det (t' := ?ct13R14) 13 (by rfl) (by kernel_rfl) (NQ_free _) (by kernel_rfl) ?cw13R14 ?ch13R14 ?ca13R14 (Eq.refl _) ?cH13R14
      case cw13R14 => (go_simp; done)
      case ch13R14 =>
        intro ds w' hS K hK
        have hc := (bcell hS).1
        have hf := (bcell hS).2
        have hz := hS.size
        try simp at hz
        go_simp
        try go_bits
        first
          | exact hK _ hS (Gr.refl _)
          | exact hK _ (by repeat (first | (with_reducible exact Below.refl _ _) | (with_reducible assumption) | ((with_reducible refine Below.setCell ?_ ?_ _); rotate_left; · (first | exact Nat.le_refl _ | (simp; done) | (simp; omega) | omega)) | ((with_reducible refine Below.alloc ?_ ?_ _); rotate_left; · (first | exact Nat.le_refl _ | (simp; done) | (simp; omega) | omega)) | (with_reducible apply Below.drew) | (with_reducible apply below_drewN') | (refine Below.trans ?_ (Below.mono (by assumption) (by first | exact Nat.le_refl _ | (simp; done) | (simp; omega) | omega))) | exact Below.refl _ _ | assumption)) (by repeat (first | (with_reducible exact Below.refl _ _) | (with_reducible assumption) | ((with_reducible refine Below.setCell ?_ ?_ _); rotate_left; · (first | exact Nat.le_refl _ | (simp; done) | (simp; omega) | omega)) | ((with_reducible refine Below.alloc ?_ ?_ _); rotate_left; · (first | exact Nat.le_refl _ | (simp; done) | (simp; omega) | omega)) | (with_reducible apply Below.drew) | (with_reducible apply below_drewN') | (refine Below.trans ?_ (Below.mono (by assumption) (by first | exact Nat.le_refl _ | (simp; done) | (simp; omega) | omega))) | exact Below.refl _ _ | assumption))
      case ca13R14 => (first | (simp [Act.put]; done) | (simp [Act.put, *]; done))
      try dsimp only
      refine wpW_det (t' := ?ct14R14) 14 (by rfl) (by kernel_rfl) (NQ_free _) (by kernel_rfl) ?cw14R14 ?ch14R14 ?ca14R14 (Eq.refl _) ?cH14R14
      case cw14R14 => (go_simp; done)
      case ch14R14 =>
        intro ds w' hS K hK
        have hc := (bcell hS).1
        have hf := (bcell hS).2
        have hz := hS.size
        try simp at hz
        go_simp
        try go_bits
        first
          | exact hK _ hS (Gr.refl _)
          | exact hK _ (by repeat (first | (with_reducible exact Below.refl _ _) | (with_reducible assumption) | ((with_reducible refine Below.setCell ?_ ?_ _); rotate_left; · (first | exact Nat.le_refl _ | (simp; done) | (simp; omega) | omega)) | ((with_reducible refine Below.alloc ?_ ?_ _); rotate_left; · (first | exact Nat.le_refl _ | (simp; done) | (simp; omega) | omega)) | (with_reducible apply Below.drew) | (with_reducible apply below_drewN') | (refine Below.trans ?_ (Below.mono (by assumption) (by first | exact Nat.le_refl _ | (simp; done) | (simp; omega) | omega))) | exact Below.refl _ _ | assumption)) (by repeat (first | (with_reducible exact Below.refl _ _) | (with_reducible assumption) | ((with_reducible refine Below.setCell ?_ ?_ _); rotate_left; · (first | exact Nat.le_refl _ | (simp; done) | (simp; omega) | omega)) | ((with_reducible refine Below.alloc ?_ ?_ _); rotate_left; · (first | exact Nat.le_refl _ | (simp; done) | (simp; omega) | omega)) | (with_reducible apply Below.drew) | (with_reducible apply below_drewN') | (refine Below.trans ?_ (Below.mono (by assumption) (by first | exact Nat.le_refl _ | (simp; done) | (simp; omega) | omega))) | exact Below.refl _ _ | assumption))
      case ca14R14 => (first | (simp [Act.put]; done) | (simp [Act.put, *]; done))
      try dsimp only
      refine wpW_det (t' := ?ct15R14) 15 (by rfl) (by kernel_rfl) (NQ_free _) (by kernel_rfl) ?cw15R14 ?ch15R14 ?ca15R14 (Eq.refl _) ?cH15R14
      case cw15R14 => (go_simp; done)
      case ch15R14 =>
        intro ds w' hS K hK
        have hc := (bcell hS).1
        have hf := (bcell hS).2
        have hz := hS.size
        try simp at hz
        go_simp
        try go_bits
        first
          | exact hK _ hS (Gr.refl _)
          | exact hK _ (by repeat (first | (with_reducible exact Below.refl _ _) | (with_reducible assumption) | ((with_reducible refine Below.setCell ?_ ?_ _); rotate_left; · (first | exact Nat.le_refl _ | (simp; done) | (simp; omega) | omega)) | ((with_reducible refine Below.alloc ?_ ?_ _); rotate_left; · (first | exact Nat.le_refl _ | (simp; done) | (simp; omega) | omega)) | (with_reducible apply Below.drew) | (with_reducible apply below_drewN') | (refine Below.trans ?_ (Below.mono (by assumption) (by first | exact Nat.le_refl _ | (simp; done) | (simp; omega) | omega))) | exact Below.refl _ _ | assumption)) (by repeat (first | (with_reducible exact Below.refl _ _) | (with_reducible assumption) | ((with_reducible refine Below.setCell ?_ ?_ _); rotate_left; · (first | exact Nat.le_refl _ | (simp; done) | (simp; omega) | omega)) | ((with_reducible refine Below.alloc ?_ ?_ _); rotate_left; · (first | exact Nat.le_refl _ | (simp; done) | (simp; omega) | omega)) | (with_reducible apply Below.drew) | (with_reducible apply below_drewN') | (refine Below.trans ?_ (Below.mono (by assumption) (by first | exact Nat.le_refl _ | (simp; done) | (simp; omega) | omega))) | exact Below.refl _ _ | assumption))
      case ca15R14 => (first | (simp [Act.put]; done) | (simp [Act.put, *]; done))
      try dsimp only
      refine wpW_det (t' := ?ct16R14) 16 (by rfl) (by kernel_rfl) (NQ_free _) (by kernel_rfl) ?cw16R14 ?ch16R14 ?ca16R14 (Eq.refl _) ?cH16R14
      case cw16R14 => (go_simp; done)
      case ch16R14 =>
        intro ds w' hS K hK
        have hc := (bcell hS).1
        have hf := (bcell hS).2
        have hz := hS.size
        try simp at hz
        go_simp
        try go_bits
        first
          | exact hK _ hS (Gr.refl _)
          | exact hK _ (by repeat (first | (with_reducible exact Below.refl _ _) | (with_reducible assumption) | ((with_reducible refine Below.setCell ?_ ?_ _); rotate_left; · (first | exact Nat.le_refl _ | (simp; done) | (simp; omega) | omega)) | ((with_reducible refine Below.alloc ?_ ?_ _); rotate_left; · (first | exact Nat.le_refl _ | (simp; done) | (simp; omega) | omega)) | (with_reducible apply Below.drew) | (with_reducible apply below_drewN') | (refine Below.trans ?_ (Below.mono (by assumption) (by first | exact Nat.le_refl _ | (simp; done) | (simp; omega) | omega))) | exact Below.refl _ _ | assumption)) (by repeat (first | (with_reducible exact Below.refl _ _) | (with_reducible assumption) | ((with_reducible refine Below.setCell ?_ ?_ _); rotate_left; · (first | exact Nat.le_refl _ | (simp; done) | (simp; omega) | omega)) | ((with_reducible refine Below.alloc ?_ ?_ _); rotate_left; · (first | exact Nat.le_refl _ | (simp; done) | (simp; omega) | omega)) | (with_reducible apply Below.drew) | (with_reducible apply below_drewN') | (refine Below.trans ?_ (Below.mono (by assumption) (by first | exact Nat.le_refl _ | (simp; done) | (simp; omega) | omega))) | exact Below.refl _ _ | assumption))
      case ca16R14 => (first | (simp [Act.put]; done) | (simp [Act.put, *]; done))
      try dsimp only
      refine wpW_end (by kernel_rfl) ?_
      intro we hg hS
      unfold NQ
      dsimp only
      have hB2 := hB1.trans (hS.mono hB1.size)
      have HX2 := Lib.hid (HX.out.below hS (Nat.le_refl _))
      clear hg hS HDE HX hB1 HI
      generalize (decE s.cd xq).1 = dr at *
      generalize (decE s.cd xq).2.1 = dd at *
      generalize (decE s.cd xq).2.2 = de at *
      by_cases hd : de = 0
      · subst hd
        obtain ⟨hF, hFB, hfr⟩ := HSET.out dr dd we HX2.out
        have HF2 := Lib.hid hF; have HFB := Lib.hid hFB; clear hF hFB
        obtain ⟨g', o', hA', hg', y0, y1, y2, y3, y4, y5, y6, y7, y8, y9, y10, y11, y12⟩ := (own_row_ HX2.out.ms).at13 mkF_len hk rfl
        rw [HMA.out] at hA'
        injection hA' with hA'
        injection hA' with hA1 hA2 _
        subst hA1
        subst hA2
        simp only [Nat.zero_add] at y0 y1 y2 y3 y4 y5 y6 y7 y8 y9 y10 y11 y12
        clear y0 y1 y2 y3 y4 y5 y6 y7 y8
        go_wp2
        go_ret
        exact ⟨⟨by rw [HE.out]; rfl, fun e => absurd HE.out e, fun _ => ⟨_, by rw [HST.out]; exact HF2.out⟩⟩, (hB2.mono hbw).trans HFB.out⟩
      · have hd1 : (de != 0) = true := by simpa using hd
        have HD := Lib.hid hd; clear hd
        go_wp2
        go_ret
        exact ⟨⟨by rw [HE.out]; rfl, fun _ => HX2.out, fun e => absurd (HE.out.symm.trans e) HD.out⟩, hB2.mono hbw⟩
    · replace HE := Lib.hid (HE.out.trans (if_pos hq))
      clear hq
      go_wp2
      go_ret
      exact ⟨⟨by rw [HE.out]; rfl, fun _ => HX.out, fun e => by rw [HE.out] at e; cases e⟩, hB1.mono hbw⟩
  · replace HE := Lib.hid (HE.out.trans (if_pos h0))
    have h1 : (xs != 0) = true := by simpa using h0
    clear h0
    go_wp2
    go_ret
    exact ⟨⟨by rw [HE.out]; rfl, fun _ => HX.out, fun e => by rw [HE.out] at e; cases e⟩, hB1.mono hbw⟩
end Go.Proofs.YtmdbpkomanhpoaaGreatDoor
