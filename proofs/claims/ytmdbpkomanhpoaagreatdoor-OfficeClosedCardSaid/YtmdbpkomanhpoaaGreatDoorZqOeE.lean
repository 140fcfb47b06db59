/- A scan entered (inspection.scan). -/
import Derived.Test.YtmdbpkomanhpoaaGreatDoorZqOeD
namespace Go.Proofs.YtmdbpkomanhpoaaGreatDoor
open Go.RowKit Go.Lib

def nW (ws : List ByteArray) (i : Nat) : Int := ((numsOf ws)[i]?).getD 0
theorem numsOf_length (ws : List ByteArray) : (numsOf ws).length = ws.length := List.length_map ..
theorem nW_at {ws : List ByteArray} {i : Nat} (h : i < ws.length) : (intsC (numsOf ws))[i]? = some (.int .i64 (nW ws i)) := by
  unfold intsC nW
  rw [List.getElem?_map, List.getElem?_eq_getElem (by rw [numsOf_length]; exact h)]
  rfl
/-- The error of a scan, and the state behind it. -/
def scanE (s : Se) (st : In) (ws : List ByteArray) : Int :=
  if numsO ws = false then 7 else if wi (nW ws 0) 0 100000000 = false then 2 else if wi (nW ws 1) 0 1000000 = false then 2 else
  if nW ws 0 < max (lastE st.ev) (lastS st.sc) then 9 else if atE s.st st.ev (nW ws 0) ≠ 0 then atE s.st st.ev (nW ws 0) else
  if ((validL s.st st.ev (nW ws 0)).any fun y => false == y) = true then 20 else if st.sc.length = 200 then 16 else 0
def scanS (st : In) (ws : List ByteArray) : In := { st with sc := st.sc ++ [⟨nW ws 0, nW ws 1, false⟩] }

theorem own_ne_row {w : World} {base base' e e' size size' n n' : Nat} {v v' : Value} {xs xs' : List Value} (h : w.ownsRow base e size v n xs) (h' : w.ownsRow base' e' size' v' n' xs') (hne : e ≠ e') (hv : v'.ownBlock ≠ none) : v.ownBlock ≠ v'.ownBlock := fun he => by
  obtain ⟨_, ⟨rfl, _⟩ | ⟨g, cap, cur, rfl, _, hh, _⟩⟩ := h
  · exact hv he.symm
  · obtain ⟨_, ⟨rfl, _⟩ | ⟨g', cap', cur', rfl, _, hh', _⟩⟩ := h'
    · exact hv rfl
    · have hg : g = g' := by simpa [Value.ownBlock] using he
      subst hg
      rw [hh] at hh'
      injection hh' with hh'
      injection hh' with _ hh'
      exact hne hh'
theorem own_ne_blk {w : World} {base e size n g t : Nat} {v : Value} {xs : List Value} {cs : Array Value} (h : w.ownsRow base e size v n xs) (hb : Blk w g t cs) (hte : t ≠ e) : v.ownBlock ≠ some g := fun he => by
  obtain ⟨_, ⟨rfl, _⟩ | ⟨g', cap, cur, rfl, _, hh, _⟩⟩ := h
  · simp [Value.ownBlock] at he
  · have hg : g' = g := by simpa [Value.ownBlock] using he
    have h2 : w.heap[g']? = some (.cells cs t (0, 0)) := by rw [hg]; exact hb
    rw [h2] at hh
    injection hh with hh
    injection hh with _ hh
    exact hte hh
/-- A row kept while another one of another kind grows. -/
theorem own_while {w w' : World} {base base' e e' size size' n n' : Nat} {v v' : Value} {xs xs' : List Value} (h : w.ownsRow base e size v n xs) (h' : w.ownsRow base' e' size' v' n' xs') (hne : e ≠ e') (hg : w.grownBy w' v'.ownBlock) : w'.ownsRow base e size v n xs := by
  by_cases hv : v'.ownBlock = none
  · rw [hv] at hg
    exact h.kept hg (by cases hx : v.ownBlock <;> simp)
  · exact h.kept hg (.inr (own_ne_row h h' hne hv))
/-- Between the growing of the scans and their storing. -/
structure Ispc (s : Se) (m : Me) (B base bx : Nat) (a : Ia) (st : In) (v : Value) (n : Nat) (l : List Sc) (w : World) : Prop where
  set : SeOk s m B w
  blk : Blk w bx 74 (inC s m a st)
  ev : w.ownsRow base 166 3 (.slice a.eA st.ev.length a.ec) st.ev.length (rowsC evF st.ev)
  sc : w.ownsRow base 140 3 v n (rowsC scF l)
  ms : w.ownsRow base 95 13 (.slice a.mA st.ms.length a.mc) st.ms.length (rowsC mkF st.ms)
  hb : B ≤ w.heap.size
theorem Ispc.below {s : Se} {m : Me} {B base bx C n : Nat} {a : Ia} {st : In} {v : Value} {l : List Sc} {w w' : World} (h : Ispc s m B base bx a st v n l w) (hb : Below C w w') (hC : w.heap.size ≤ C) : Ispc s m B base bx a st v n l w' :=
  ⟨h.set.below hb (Nat.le_trans h.hb hC), h.blk.below hb (Nat.lt_of_lt_of_le h.blk.lt hC), own_below h.ev (hb.mono hC), own_below h.sc (hb.mono hC), own_below h.ms (hb.mono hC), Nat.le_trans h.hb hb.size⟩
theorem Isp.scGrow {s : Se} {m : Me} {B base bx n : Nat} {a : Ia} {st : In} {v : Value} {l : List Sc} {w w' : World} (h : Isp s m B base bx a st w) (hv : w'.ownsRow base 140 3 v n (rowsC scF l)) (hg : w.grownBy w' (Value.slice a.sA st.sc.length a.sc).ownBlock) : Ispc s m B base bx a st v n l w' := by
  have hb : Below base w w' := (Below.refl base w).grown hg (Nat.le_trans h.lo (Nat.le_of_lt h.blk.lt)) (fun r e => (h.sc.lt r e).1)
  exact ⟨h.set.below hb h.le, h.blk.grown hg (own_ne_blk h.sc h.blk (by decide)).symm, own_while h.ev h.sc (by decide) hg, hv, own_while h.ms h.sc (by decide) hg, Nat.le_trans h.set.base hb.size⟩
theorem Ispc.store {s : Se} {m : Me} {B base bx n c : Nat} {A : Option Addr} {a : Ia} {st : In} {l : List Sc} {w : World} (h : Ispc s m B base bx a st (.slice A n c) n l w) (hn : l.length = n) (hle : B ≤ base) (hlo : base ≤ bx) (hl : InLim { st with sc := l }) : Isp s m B base bx { a with sA := A, sc := c } { st with sc := l } (w.setCell ⟨bx, 14, none⟩ (.slice A n c)) := by
  subst hn
  exact ⟨h.set.below ((Below.refl _ _).setCell (p := ⟨bx, 14, none⟩) (Nat.le_trans hle hlo) _) (Nat.le_refl _), Blk.set_ h.blk 14 _, own_other h.ev h.blk (by decide) _ _, own_other h.sc h.blk (by decide) _ _, own_other h.ms h.blk (by decide) _ _, hle, hlo, hl⟩
theorem infoSc : (Tryz.prog.info? 140).map (fun i => (i.zero, i.size, i.bytes)) = some (some (.agg #[.int .i64 0, .int .i64 0, .bool false]), 3, 24) := by kernel_rfl
theorem atE_len {l : List St} {evs : List Ev} {m : Int} (h : atE l evs m = 0) : l.length ≤ 10 := by
  unfold atE at h
  have h1 : (followE l evs).2 = 0 := by
    split at h
    · assumption
    · exact h
  have h2 : (stepsE l).2 = 0 := by
    unfold followE at h1
    split at h1
    · assumption
    · exact h1
  unfold stepsE at h2
  split at h2
  · cases h2
  · split at h2
    · cases h2
    · omega
theorem ValidR.one {l : List St} {evs : List Ev} {m : Int} {N : Nat} {e : Ending} {w' : World} (h : ValidR l evs m N e w') : ∃ V, e = .returned (.tuple #[V, .int .i64 (atE l evs m)]) ∧ (atE l evs m = 0 → w'.ownsRow N 4 1 V l.length (boolC (validL l evs m))) := by
  rcases h with ⟨h0, rfl⟩ | ⟨h0, v, rfl, hv⟩
  · exact ⟨_, rfl, fun e => absurd e h0⟩
  · exact ⟨v, by rw [h0], fun _ => hv⟩
set_option maxRecDepth 100000 in
set_option maxHeartbeats 4000000 in
theorem scan_any (s : Se) (m : Me) (B base bx : Nat) (a : Ia) (st : In) (by_ : ByteArray) (ws : List ByteArray) (A : Option Addr) (c C : Nat) (w : World) (h : Isp s m B base bx a st w) (hw : WsOk ws A c C w) (h2 : ws.length = 2) (hL : LibW w) :
    Calls Tryz.prog 65 #[.pointer (some ⟨bx, 0, none⟩), .string by_, .slice A ws.length c] w fun e w' => StepR s m B base bx a st (scanE s st ws) (scanS st ws) e w' ∧ Below base w w' := by
  obtain ⟨i0, hi, hz0, hz1, hz2⟩ := info_parts infoSc
  have HI := Lib.hid h
  have hbw : base ≤ w.heap.size := Nat.le_trans h.lo (Nat.le_of_lt h.blk.lt)
  have HN := Lib.hid (numbers_any ws A c C w hw.row hw.base (by have := hw.few; omega) (fun x hx => Nat.le_trans (hw.sz x hx) (by decide)) hL)
  clear h hw hL
  have HNW : Hid (∀ i, i < ws.length → (intsC (numsOf ws))[i]? = some (.int .i64 (nW ws i))) := Lib.hid fun i => nW_at
  have HE : Hid (scanE s st ws = if numsO ws = false then 7 else if wi (nW ws 0) 0 100000000 = false then 2 else if wi (nW ws 1) 0 1000000 = false then 2 else
    if nW ws 0 < max (lastE st.ev) (lastS st.sc) then 9 else if atE s.st st.ev (nW ws 0) ≠ 0 then atE s.st st.ev (nW ws 0) else
    if ((validL s.st st.ev (nW ws 0)).any fun y => false == y) = true then 20 else if st.sc.length = 200 then 16 else 0) := Lib.hid rfl
  have HST : Hid (scanS st ws = { st with sc := st.sc ++ [⟨nW ws 0, nW ws 1, false⟩] }) := Lib.hid rfl
  have H2 := Lib.hid h2
  rw [h2] at HN ⊢
  generalize scanE s st ws = E at *
  generalize scanS st ws = st' at *
  clear h2
  go_enter Tryz.func65, Tryz.ntmps65
  go_wp2_with fail
  refine HN.out.mono ?_
  rintro e wn ⟨hN, hB1⟩
  rcases hN with ⟨n0, rfl⟩ | ⟨n1, v, rfl, hv⟩
  · replace HE := Lib.hid (HE.out.trans (if_pos n0))
    have HX := Lib.hid (HI.out.below hB1 (Nat.le_refl _))
    clear n0
    go_wp2
    go_ret
    exact ⟨⟨by rw [HE.out]; rfl, fun _ => HX.out, fun e => by rw [HE.out] at e; cases e⟩, hB1.mono hbw⟩
  replace HE := Lib.hid (HE.out.trans (if_neg (by simp [n1])))
  clear n1
  rw [H2.out] at hv
  obtain ⟨A', c', rfl, hc1, _, hR⟩ := Row.ownd hv
  obtain ⟨gv, ov, rfl, hgv, hcv⟩ := hR.2 (by omega)
  have x0 := hcv 0 _ (HNW.out 0 (by have := H2.out; omega))
  have x1 := hcv 1 _ (HNW.out 1 (by have := H2.out; omega))
  rw [Nat.add_zero] at x0
  clear hcv hR hv HNW HN
  generalize nW ws 0 = mi at *
  generalize nW ws 1 = po at *
  go_upto_region 4 with fail
  refine wp_region_w (Gr _) (by kernel_rfl) (Below.refl _ _).drew ?_
  refine wpW_det (t' := ?ct0R9) 0 (by rfl) (by kernel_rfl) (NQ_free _) (by kernel_rfl) ?cw0R9 ?ch0R9 ?ca0R9 (Eq.refl _) ?cH0R9
  case cw0R9 => (go_simp; done)
  case ch0R9 =>
    intro ds w' hS K hK
    have hc := (bcell hS).1
    have hf := (bcell hS).2
    have hz := hS.size
    try simp at hz
    go_simp
    try go_bits
    first
      | exact hK _ hS (Gr.refl _)
      | exact hK _ (by repeat (first | (with_reducible exact Below.refl _ _) | (with_reducible assumption) | ((with_reducible refine Below.setCell ?_ ?_ _); rotate_left; · (first | exact Nat.le_refl _ | (simp; done) | (simp; omega) | omega)) | ((with_reducible refine Below.alloc ?_ ?_ _); rotate_left; · (first | exact Nat.le_refl _ | (simp; done) | (simp; omega) | omega)) | (with_reducible apply Below.drew) | (with_reducible apply below_drewN') | (refine Below.trans ?_ (Below.mono (by assumption) (by first | exact Nat.le_refl _ | (simp; done) | (simp; omega) | omega))) | exact Below.refl _ _ | assumption)) (by repeat (first | (with_reducible exact Below.refl _ _) | (with_reducible assumption) | ((with_reducible refine Below.setCell ?_ ?_ _); rotate_left; · (first | exact Nat.le_refl _ | (simp; done) | (simp; omega) | omega)) | ((with_reducible refine Below.alloc ?_ ?_ _); rotate_left; · (first | exact Nat.le_refl _ | (simp; done) | (simp; omega) | omega)) | (with_reducible apply Below.drew) | (with_reducible apply below_drewN') | (refine Below.trans ?_ (Below.mono (by assumption) (by first | exact Nat.le_refl _ | (simp; done) | (simp; omega) | omega))) | exact Below.refl _ _ | assumption))
  case ca0R9 => (first | (simp [Act.put]; done) | (simp [Act.put, *]; done))
  try dsimp only
  refine wpW_det (t' := ?ct1R9) 1 (by rfl) (by kernel_rfl) (NQ_free _) (by kernel_rfl) ?cw1R9 ?ch1R9 ?ca1R9 (Eq.refl _) ?cH1R9
  case cw1R9 => (go_simp; done)
  case ch1R9 =>
    intro ds w' hS K hK
    have hc := (bcell hS).1
    have hf := (bcell hS).2
    have hz := hS.size
    try simp at hz
    go_simp
    try go_bits
    first
      | exact hK _ hS (Gr.refl _)
      | exact hK _ (by repeat (first | (with_reducible exact Below.refl _ _) | (with_reducible assumption) | ((with_reducible refine Below.setCell ?_ ?_ _); rotate_left; · (first | exact Nat.le_refl _ | (simp; done) | (simp; omega) | omega)) | ((with_reducible refine Below.alloc ?_ ?_ _); rotate_left; · (first | exact Nat.le_refl _ | (simp; done) | (simp; omega) | omega)) | (with_reducible apply Below.drew) | (with_reducible apply below_drewN') | (refine Below.trans ?_ (Below.mono (by assumption) (by first | exact Nat.le_refl _ | (simp; done) | (simp; omega) | omega))) | exact Below.refl _ _ | assumption)) (by repeat (first | (with_reducible exact Below.refl _ _) | (with_reducible assumption) | ((with_reducible refine Below.setCell ?_ ?_ _); rotate_left; · (first | exact Nat.le_refl _ | (simp; done) | (simp; omega) | omega)) | ((with_reducible refine Below.alloc ?_ ?_ _); rotate_left; · (first | exact Nat.le_refl _ | (simp; done) | (simp; omega) | omega)) | (with_reducible apply Below.drew) | (with_reducible apply below_drewN') | (refine Below.trans ?_ (Below.mono (by assumption) (by first | exact Nat.le_refl _ | (simp; done) | (simp; omega) | omega))) | exact Below.refl _ _ | assumption))
  case ca1R9 => (first | (simp [Act.put]; done) | (simp [Act.put, *]; done))
  try dsimp only
  refine wpW_det (t' := ?ct2R9) 2 (by rfl) (by kernel_rfl) (NQ_free _) (by kernel_rfl) ?cw2R9 ?ch2R9 ?ca2R9 (Eq.refl _) ?cH2R9
  case cw2R9 => (go_simp; done)
  case ch2R9 =>
    intro ds w' hS K hK
    have hc := (bcell hS).1
    have hf := (bcell hS).2
    have hz := hS.size
    try simp at hz
    go_simp
    try go_bits
    first
      | exact hK _ hS (Gr.refl _)
      | exact hK _ (by repeat (first | (with_reducible exact Below.refl _ _) | (with_reducible assumption) | ((with_reducible refine Below.setCell ?_ ?_ _); rotate_left; · (first | exact Nat.le_refl _ | (simp; done) | (simp; omega) | omega)) | ((with_reducible refine Below.alloc ?_ ?_ _); rotate_left; · (first | exact Nat.le_refl _ | (simp; done) | (simp; omega) | omega)) | (with_reducible apply Below.drew) | (with_reducible apply below_drewN') | (refine Below.trans ?_ (Below.mono (by assumption) (by first | exact Nat.le_refl _ | (simp; done) | (simp; omega) | omega))) | exact Below.refl _ _ | assumption)) (by repeat (first | (with_reducible exact Below.refl _ _) | (with_reducible assumption) | ((with_reducible refine Below.setCell ?_ ?_ _); rotate_left; · (first | exact Nat.le_refl _ | (simp; done) | (simp; omega) | omega)) | ((with_reducible refine Below.alloc ?_ ?_ _); rotate_left; · (first | exact Nat.le_refl _ | (simp; done) | (simp; omega) | omega)) | (with_reducible apply Below.drew) | (with_reducible apply below_drewN') | (refine Below.trans ?_ (Below.mono (by assumption) (by first | exact Nat.le_refl _ | (simp; done) | (simp; omega) | omega))) | exact Below.refl _ _ | assumption))
  case ca2R9 => (first | (simp [Act.put]; done) | (simp [Act.put, *]; done))
  try dsimp only
  refine wpW_det (t' := ?ct3R9) 3 (by rfl) (by kernel_rfl) (NQ_free _) (by kernel_rfl) ?cw3R9 ?ch3R9 ?ca3R9 (Eq.refl _) ?cH3R9
  case cw3R9 => (go_simp; done)
  case ch3R9 =>
    intro ds w' hS K hK
    have hc := (bcell hS).1
    have hf := (bcell hS).2
    have hz := hS.size
    try simp at hz
    go_simp
    try go_bits
    first
      | exact hK _ hS (Gr.refl _)
      | exact hK _ (by repeat (first | (with_reducible exact Below.refl _ _) | (with_reducible assumption) | ((with_reducible refine Below.setCell ?_ ?_ _); rotate_left; · (first | exact Nat.le_refl _ | (simp; done) | (simp; omega) | omega)) | ((with_reducible refine Below.alloc ?_ ?_ _); rotate_left; · (first | exact Nat.le_refl _ | (simp; done) | (simp; omega) | omega)) | (with_reducible apply Below.drew) | (with_reducible apply below_drewN') | (refine Below.trans ?_ (Below.mono (by assumption) (by first | exact Nat.le_refl _ | (simp; done) | (simp; omega) | omega))) | exact Below.refl _ _ | assumption)) (by repeat (first | (with_reducible exact Below.refl _ _) | (with_reducible assumption) | ((with_reducible refine Below.setCell ?_ ?_ _); rotate_left; · (first | exact Nat.le_refl _ | (simp; done) | (simp; omega) | omega)) | ((with_reducible refine Below.alloc ?_ ?_ _); rotate_left; · (first | exact Nat.le_refl _ | (simp; done) | (simp; omega) | omega)) | (with_reducible apply Below.drew) | (with_reducible apply below_drewN') | (refine Below.trans ?_ (Below.mono (by assumption) (by first | exact Nat.le_refl _ | (simp; done) | (simp; omega) | omega))) | exact Below.refl _ _ | assumption))
  case ca3R9 => (first | (simp [Act.put]; done) | (simp [Act.put, *]; done))
  try dsimp only
  refine wpW_det (t' := ?ct4R9) 4 (by rfl) (by kernel_rfl) (NQ_free _) (by kernel_rfl) ?cw4R9 ?ch4R9 ?ca4R9 (Eq.refl _) ?cH4R9
  case cw4R9 => (go_simp; done)
  case ch4R9 =>
    intro ds w' hS K hK
    have hc := (bcell hS).1
    have hf := (bcell hS).2
    have hz := hS.size
    try simp at hz
    go_simp
    try go_bits
    first
      | exact hK _ hS (Gr.refl _)
      | exact hK _ (by repeat (first | (with_reducible exact Below.refl _ _) | (with_reducible assumption) | ((with_reducible refine Below.setCell ?_ ?_ _); rotate_left; · (first | exact Nat.le_refl _ | (simp; done) | (simp; omega) | omega)) | ((with_reducible refine Below.alloc ?_ ?_ _); rotate_left; · (first | exact Nat.le_refl _ | (simp; done) | (simp; omega) | omega)) | (with_reducible apply Below.drew) | (with_reducible apply below_drewN') | (refine Below.trans ?_ (Below.mono (by assumption) (by first | exact Nat.le_refl _ | (simp; done) | (simp; omega) | omega))) | exact Below.refl _ _ | assumption)) (by repeat (first | (with_reducible exact Below.refl _ _) | (with_reducible assumption) | ((with_reducible refine Below.setCell ?_ ?_ _); rotate_left; · (first | exact Nat.le_refl _ | (simp; done) | (simp; omega) | omega)) | ((with_reducible refine Below.alloc ?_ ?_ _); rotate_left; · (first | exact Nat.le_refl _ | (simp; done) | (simp; omega) | omega)) | (with_reducible apply Below.drew) | (with_reducible apply below_drewN') | (refine Below.trans ?_ (Below.mono (by assumption) (by first | exact Nat.le_refl _ | (simp; done) | (simp; omega) | omega))) | exact Below.refl _ _ | assumption))
  case ca4R9 => (first | (simp [Act.put]; done) | (simp [Act.put, *]; done))
  try dsimp only
  refine wpW_det (t' := ?ct5R9) 5 (by rfl) (by kernel_rfl) (NQ_free _) (by kernel_rfl) ?cw5R9 ?ch5R9 ?ca5R9 (Eq.refl _) ?cH5R9
  case cw5R9 => (go_simp; done)
  case ch5R9 =>
    intro ds w' hS K hK
    have hc := (bcell hS).1
    have hf := (bcell hS).2
    have hz := hS.size
    try simp at hz
    go_simp
    try go_bits
    first
      | exact hK _ hS (Gr.refl _)
      | exact hK _ (by repeat (first | (with_reducible exact Below.refl _ _) | (with_reducible assumption) | ((with_reducible refine Below.setCell ?_ ?_ _); rotate_left; · (first | exact Nat.le_refl _ | (simp; done) | (simp; omega) | omega)) | ((with_reducible refine Below.alloc ?_ ?_ _); rotate_left; · (first | exact Nat.le_refl _ | (simp; done) | (simp; omega) | omega)) | (with_reducible apply Below.drew) | (with_reducible apply below_drewN') | (refine Below.trans ?_ (Below.mono (by assumption) (by first | exact Nat.le_refl _ | (simp; done) | (simp; omega) | omega))) | exact Below.refl _ _ | assumption)) (by repeat (first | (with_reducible exact Below.refl _ _) | (with_reducible assumption) | ((with_reducible refine Below.setCell ?_ ?_ _); rotate_left; · (first | exact Nat.le_refl _ | (simp; done) | (simp; omega) | omega)) | ((with_reducible refine Below.alloc ?_ ?_ _); rotate_left; · (first | exact Nat.le_refl _ | (simp; done) | (simp; omega) | omega)) | (with_reducible apply Below.drew) | (with_reducible apply below_drewN') | (refine Below.trans ?_ (Below.mono (by assumption) (by first | exact Nat.le_refl _ | (simp; done) | (simp; omega) | omega))) | exact Below.refl _ _ | assumption))
  case ca5R9 => (first | (simp [Act.put]; done) | (simp [Act.put, *]; done))
  try dsimp only
  refine wpW_det (t' := ?ct6R9) 6 (by rfl) (by kernel_rfl) (NQ_free _) (by kernel_rfl) ?cw6R9 ?ch6R9 ?ca6R9 (Eq.refl _) ?cH6R9
  case cw6R9 => (go_simp; done)
  case ch6R9 =>
    intro ds w' hS K hK
    have hc := (bcell hS).1
    have hf := (bcell hS).2
    have hz := hS.size
    try simp at hz
    go_simp
    try go_bits
    first
      | exact hK _ hS (Gr.refl _)
      | exact hK _ (by repeat (first | (with_reducible exact Below.refl _ _) | (with_reducible assumption) | ((with_reducible refine Below.setCell ?_ ?_ _); rotate_left; · (first | exact Nat.le_refl _ | (simp; done) | (simp; omega) | omega)) | ((with_reducible refine Below.alloc ?_ ?_ _); rotate_left; · (first | exact Nat.le_refl _ | (simp; done) | (simp; omega) | omega)) | (with_reducible apply Below.drew) | (with_reducible apply below_drewN') | (refine Below.trans ?_ (Below.mono (by assumption) (by first | exact Nat.le_refl _ | (simp; done) | (simp; omega) | omega))) | exact Below.refl _ _ | assumption)) (by repeat (first | (with_reducible exact Below.refl _ _) | (with_reducible assumption) | ((with_reducible refine Below.setCell ?_ ?_ _); rotate_left; · (first | exact Nat.le_refl _ | (simp; done) | (simp; omega) | omega)) | ((with_reducible refine Below.alloc ?_ ?_ _); rotate_left; · (first | exact Nat.le_refl _ | (simp; done) | (simp; omega) | omega)) | (with_reducible apply Below.drew) | (with_reducible apply below_drewN') | (refine Below.trans ?_ (Below.mono (by assumption) (by first | exact Nat.le_refl _ | (simp; done) | (simp; omega) | omega))) | exact Below.refl _ _ | assumption))
  case ca6R9 => (first | (simp [Act.put]; done) | (simp [Act.put, *]; done))
  try dsimp only
  clear x0 x1
  refine wpW_branch [7] (by kernel_rfl) (by simp) ?_
  intro u7 hg_u7 hS_u7
  refine each_cons ?_ each_nil
  refine wpOp_go (by rfl) (Eq.refl _) (by go_simp; done) ?_
  intro K hK
  go_simp
  try simp only [Act.put]
  have bn := Blk.new u7 140 #[.int .i64 0, .int .i64 0, .bool false]
  have hgn : wn.heap.size ≤ u7.heap.size := Below.size hS_u7
  refine hK _ _ (Below.alloc hS_u7 (Below.size hS_u7) _) ?_
  generalize u7.heap.size = gn at *
  clear hK K
  refine wpW_branch [8] (by kernel_rfl) (by simp) ?_
  intro u8 hg_u8 hS_u8
  replace bn := Blk.gr bn hg_u8
  obtain ⟨z0, z1, z2, zf⟩ := blkz3 bn
  have lz := bn.lt
  refine each_cons ?_ each_nil
  refine wpOp_go (by rfl) (Eq.refl _) (by go_simp; done) ?_
  intro K hK
  go_simp
  try simp only [Act.put]
  have bn := Blk.put3 bn (.int .i64 mi) (.int .i64 po) (.bool false)
  refine hK _ _ (Below.put3 hS_u8 hgn _ _ _) ?_
  clear hK K z0 z1 z2 zf lz
  refine wpW_end (by kernel_rfl) ?_
  intro W4 hg hS
  unfold NQ
  dsimp only
  have b4 := Blk.gr bn hg
  have hB4 := hB1.trans (hS.mono hB1.size)
  have HX4 := Lib.hid (HI.out.below hB4 (Nat.le_refl _))
  have hgw : w.heap.size ≤ gn := Nat.le_trans hB1.size hgn
  clear hg hS hgn hB1 hgv hc1
  clear bn
  have d0 := b4.cell 0
  have d1 := b4.cell 1
  have d2 := b4.cell 2
  have lg := b4.lt
  cases q1 : wi mi 0 100000000
  · replace HE := Lib.hid (HE.out.trans (if_pos q1))
    go_wp2_with (go_at_call 79; refine (oWithin_any _ _ _ _).mono ?_; rintro e w1 ⟨rfl, rfl⟩)
    go_ret
    exact ⟨⟨by rw [HE.out]; rfl, fun _ => HX4.out, fun e => by rw [HE.out] at e; cases e⟩, hB4.mono hbw⟩
  replace HE := Lib.hid (HE.out.trans (if_neg (by simp [q1])))
  cases q2 : wi po 0 1000000
  · replace HE := Lib.hid (HE.out.trans (if_pos q2))
    go_wp2_with (go_at_call 79; refine (oWithin_any _ _ _ _).mono ?_; rintro e w1 ⟨rfl, rfl⟩)
    go_ret
    exact ⟨⟨by rw [HE.out]; rfl, fun _ => HX4.out, fun e => by rw [HE.out] at e; cases e⟩, hB4.mono hbw⟩
  replace HE := Lib.hid (HE.out.trans (if_neg (by simp [q2])))
  go_upto_region 7 with (go_at_call 79; refine (oWithin_any _ _ _ _).mono ?_; rintro e w1 ⟨rfl, rfl⟩)
  have Q1 := Lib.hid q1; have Q2 := Lib.hid q2; clear q1 q2
  have HLS : Hid (∀ W, Below W4.heap.size W4 W → Calls Tryz.prog 91 #[.pointer (some ⟨bx, 0, none⟩)] W fun e w' => e = .returned (.int .i64 (lastS st.sc)) ∧ w' = W) := Lib.hid fun W hW => lastScan_any s m B base bx a st W (HX4.out.below hW (Nat.le_refl _))
  have HLE : Hid (∀ W, Below W4.heap.size W4 W → Calls Tryz.prog 94 #[.pointer (some ⟨bx, 0, none⟩)] W fun e w' => e = .returned (.int .i64 (lastE st.ev)) ∧ w' = W) := Lib.hid fun W hW => lastEvent_any s m B base bx a st W (HX4.out.below hW (Nat.le_refl _))
  refine wp_region_b 9 (by kernel_rfl) (by kernel_rfl) ?_; simp only [List.take, List.drop]
  repeat (first
    | (apply StepsD.run
       · go_simp
         done
       · intro w' hS K hK
         have hc := (bcell hS).1
         have hf := (bcell hS).2
         have hz := hS.size
         try simp at hz
         go_simp
         try go_bits
         first
           | exact hK _ hS
           | (go_at_call 91; (refine (HLS.out _ hS).mono ?_); rintro e wq ⟨rfl, rfl⟩; exact hK _ hS)
           | (go_at_call 94; (refine (HLE.out _ hS).mono ?_); rintro e wq ⟨rfl, rfl⟩; exact hK _ hS)
           | exact hK _ (by repeat (first | (with_reducible exact Below.refl _ _) | (with_reducible assumption) | ((with_reducible refine Below.setCell ?_ ?_ _); rotate_left; · (first | exact Nat.le_refl _ | (simp; done) | (simp; omega) | omega)) | ((with_reducible refine Below.alloc ?_ ?_ _); rotate_left; · (first | exact Nat.le_refl _ | (simp; done) | (simp; omega) | omega)) | (with_reducible apply Below.drew) | (with_reducible apply below_drewN') | (refine Below.trans ?_ (Below.mono (by assumption) (by first | exact Nat.le_refl _ | (simp; done) | (simp; omega) | omega))) | exact Below.refl _ _ | assumption))
       · simp [Act.put]
         done)
    | (apply StepsD.pass
       · first | (go_simp; done) | rfl
       · simp only [Act.put, List.setIfInBounds_toArray, List.set_cons_succ, List.set_cons_zero]
         rfl))
  refine StepsD.done ?_
  intro W5 hS5
  clear HLS HLE
  generalize max (lastE st.ev) (lastS st.sc) = mx at *
  have hB5 := hB4.trans (hS5.mono hB4.size)
  have b5 := b4.below hS5 lg
  have HX5 := Lib.hid (HX4.out.below hS5 (Nat.le_refl _))
  clear HX4 d0 d1 d2 lg b4 hS5 hB4
  by_cases hm : mi < mx
  · replace HE := Lib.hid (HE.out.trans (if_pos hm))
    go_wp2
    go_ret
    exact ⟨⟨by rw [HE.out]; rfl, fun _ => HX5.out, fun e => by rw [HE.out] at e; cases e⟩, hB5.mono hbw⟩
  replace HE := Lib.hid (HE.out.trans (if_neg hm))
  go_upto_region 9 with fail
  clear hm
  obtain ⟨c0, c1, c2, c3, c4, c5, c6, c7, c8, c9, c10, c11, c12, c13, c14, c15, c16, cf⟩ := blk17 HX5.out.blk
  have d0 := b5.cell 0
  have lg := b5.lt
  have lb := HX5.out.blk.lt
  clear c0 c1 c2 c3 c4 c6 c7 c8 c9 c10 c11 c12 c14 c15 c16 cf
  have HVA : Hid (∀ W, Below W5.heap.size W5 W → Calls Tryz.prog 95 #[.slice m.sA s.st.length m.sc, .slice a.eA st.ev.length a.ec, .int .i64 mi] W fun e w' => ValidR s.st st.ev mi W.heap.size e w' ∧ Below W.heap.size W w') := Lib.hid fun W hW => (by
    have hI := HX5.out.below hW (Nat.le_refl _)
    exact validAt_any s.st m.sA m.sc W.heap.size st.ev a.eA a.ec mi W (hI.set.st.more hI.set.base (Nat.le_refl _)) (own_row_ hI.ev) (by have := hI.lim.ev; omega))
  refine wp_region_w (Gr _) (by kernel_rfl) (Below.refl _ _).drew ?_
  refine wpW_det (t' := ?ct0R10) 0 (by rfl) (by kernel_rfl) (NQ_free _) (by kernel_rfl) ?cw0R10 ?ch0R10 ?ca0R10 (Eq.refl _) ?cH0R10
  case cw0R10 => (go_simp; done)
  case ch0R10 =>
    intro ds w' hS K hK
    have hc := (bcell hS).1
    have hf := (bcell hS).2
    have hz := hS.size
    try simp at hz
    go_simp
    try go_bits
    first
      | exact hK _ hS (Gr.refl _)
      | exact hK _ (by repeat (first | (with_reducible exact Below.refl _ _) | (with_reducible assumption) | ((with_reducible refine Below.setCell ?_ ?_ _); rotate_left; · (first | exact Nat.le_refl _ | (simp; done) | (simp; omega) | omega)) | ((with_reducible refine Below.alloc ?_ ?_ _); rotate_left; · (first | exact Nat.le_refl _ | (simp; done) | (simp; omega) | omega)) | (with_reducible apply Below.drew) | (with_reducible apply below_drewN') | (refine Below.trans ?_ (Below.mono (by assumption) (by first | exact Nat.le_refl _ | (simp; done) | (simp; omega) | omega))) | exact Below.refl _ _ | assumption)) (by repeat (first | (with_reducible exact Below.refl _ _) | (with_reducible assumption) | ((with_reducible refine Below.setCell ?_ ?_ _); rotate_left; · (first | exact Nat.le_refl _ | (simp; done) | (simp; omega) | omega)) | ((with_reducible refine Below.alloc ?_ ?_ _); rotate_left; · (first | exact Nat.le_refl _ | (simp; done) | (simp; omega) | omega)) | (with_reducible apply Below.drew) | (with_reducible apply below_drewN') | (refine Below.trans ?_ (Below.mono (by assumption) (by first | exact Nat.le_refl _ | (simp; done) | (simp; omega) | omega))) | exact Below.refl _ _ | assumption))
  case ca0R10 => (first | (simp [Act.put]; done) | (simp [Act.put, *]; done))
  try dsimp only
  refine wpW_det (t' := ?ct1R10) 1 (by rfl) (by kernel_rfl) (NQ_free _) (by kernel_rfl) ?cw1R10 ?ch1R10 ?ca1R10 (Eq.refl _) ?cH1R10
  case cw1R10 => (go_simp; done)
  case ch1R10 =>
    intro ds w' hS K hK
    have hc := (bcell hS).1
    have hf := (bcell hS).2
    have hz := hS.size
    try simp at hz
    go_simp
    try go_bits
    first
      | exact hK _ hS (Gr.refl _)
      | exact hK _ (by repeat (first | (with_reducible exact Below.refl _ _) | (with_reducible assumption) | ((with_reducible refine Below.setCell ?_ ?_ _); rotate_left; · (first | exact Nat.le_refl _ | (simp; done) | (simp; omega) | omega)) | ((with_reducible refine Below.alloc ?_ ?_ _); rotate_left; · (first | exact Nat.le_refl _ | (simp; done) | (simp; omega) | omega)) | (with_reducible apply Below.drew) | (with_reducible apply below_drewN') | (refine Below.trans ?_ (Below.mono (by assumption) (by first | exact Nat.le_refl _ | (simp; done) | (simp; omega) | omega))) | exact Below.refl _ _ | assumption)) (by repeat (first | (with_reducible exact Below.refl _ _) | (with_reducible assumption) | ((with_reducible refine Below.setCell ?_ ?_ _); rotate_left; · (first | exact Nat.le_refl _ | (simp; done) | (simp; omega) | omega)) | ((with_reducible refine Below.alloc ?_ ?_ _); rotate_left; · (first | exact Nat.le_refl _ | (simp; done) | (simp; omega) | omega)) | (with_reducible apply Below.drew) | (with_reducible apply below_drewN') | (refine Below.trans ?_ (Below.mono (by assumption) (by first | exact Nat.le_refl _ | (simp; done) | (simp; omega) | omega))) | exact Below.refl _ _ | assumption))
  case ca1R10 => (first | (simp [Act.put]; done) | (simp [Act.put, *]; done))
  try dsimp only
  refine wpW_det (t' := ?ct2R10) 2 (by rfl) (by kernel_rfl) (NQ_free _) (by kernel_rfl) ?cw2R10 ?ch2R10 ?ca2R10 (Eq.refl _) ?cH2R10
  case cw2R10 => (go_simp; done)
  case ch2R10 =>
    intro ds w' hS K hK
    have hc := (bcell hS).1
    have hf := (bcell hS).2
    have hz := hS.size
    try simp at hz
    go_simp
    try go_bits
    first
      | exact hK _ hS (Gr.refl _)
      | exact hK _ (by repeat (first | (with_reducible exact Below.refl _ _) | (with_reducible assumption) | ((with_reducible refine Below.setCell ?_ ?_ _); rotate_left; · (first | exact Nat.le_refl _ | (simp; done) | (simp; omega) | omega)) | ((with_reducible refine Below.alloc ?_ ?_ _); rotate_left; · (first | exact Nat.le_refl _ | (simp; done) | (simp; omega) | omega)) | (with_reducible apply Below.drew) | (with_reducible apply below_drewN') | (refine Below.trans ?_ (Below.mono (by assumption) (by first | exact Nat.le_refl _ | (simp; done) | (simp; omega) | omega))) | exact Below.refl _ _ | assumption)) (by repeat (first | (with_reducible exact Below.refl _ _) | (with_reducible assumption) | ((with_reducible refine Below.setCell ?_ ?_ _); rotate_left; · (first | exact Nat.le_refl _ | (simp; done) | (simp; omega) | omega)) | ((with_reducible refine Below.alloc ?_ ?_ _); rotate_left; · (first | exact Nat.le_refl _ | (simp; done) | (simp; omega) | omega)) | (with_reducible apply Below.drew) | (with_reducible apply below_drewN') | (refine Below.trans ?_ (Below.mono (by assumption) (by first | exact Nat.le_refl _ | (simp; done) | (simp; omega) | omega))) | exact Below.refl _ _ | assumption))
  case ca2R10 => (first | (simp [Act.put]; done) | (simp [Act.put, *]; done))
  try dsimp only
  refine wpW_det (t' := ?ct3R10) 3 (by rfl) (by kernel_rfl) (NQ_free _) (by kernel_rfl) ?cw3R10 ?ch3R10 ?ca3R10 (Eq.refl _) ?cH3R10
  case cw3R10 => (go_simp; done)
  case ch3R10 =>
    intro ds w' hS K hK
    have hc := (bcell hS).1
    have hf := (bcell hS).2
    have hz := hS.size
    try simp at hz
    go_simp
    try go_bits
    first
      | exact hK _ hS (Gr.refl _)
      | exact hK _ (by repeat (first | (with_reducible exact Below.refl _ _) | (with_reducible assumption) | ((with_reducible refine Below.setCell ?_ ?_ _); rotate_left; · (first | exact Nat.le_refl _ | (simp; done) | (simp; omega) | omega)) | ((with_reducible refine Below.alloc ?_ ?_ _); rotate_left; · (first | exact Nat.le_refl _ | (simp; done) | (simp; omega) | omega)) | (with_reducible apply Below.drew) | (with_reducible apply below_drewN') | (refine Below.trans ?_ (Below.mono (by assumption) (by first | exact Nat.le_refl _ | (simp; done) | (simp; omega) | omega))) | exact Below.refl _ _ | assumption)) (by repeat (first | (with_reducible exact Below.refl _ _) | (with_reducible assumption) | ((with_reducible refine Below.setCell ?_ ?_ _); rotate_left; · (first | exact Nat.le_refl _ | (simp; done) | (simp; omega) | omega)) | ((with_reducible refine Below.alloc ?_ ?_ _); rotate_left; · (first | exact Nat.le_refl _ | (simp; done) | (simp; omega) | omega)) | (with_reducible apply Below.drew) | (with_reducible apply below_drewN') | (refine Below.trans ?_ (Below.mono (by assumption) (by first | exact Nat.le_refl _ | (simp; done) | (simp; omega) | omega))) | exact Below.refl _ _ | assumption))
  case ca3R10 => (first | (simp [Act.put]; done) | (simp [Act.put, *]; done))
  try dsimp only
  refine wpW_det (t' := ?ct4R10) 4 (by rfl) (by kernel_rfl) (NQ_free _) (by kernel_rfl) ?cw4R10 ?ch4R10 ?ca4R10 (Eq.refl _) ?cH4R10
  case cw4R10 => (go_simp; done)
  case ch4R10 =>
    intro ds w' hS K hK
    have hc := (bcell hS).1
    have hf := (bcell hS).2
    have hz := hS.size
    try simp at hz
    go_simp
    try go_bits
    first
      | exact hK _ hS (Gr.refl _)
      | exact hK _ (by repeat (first | (with_reducible exact Below.refl _ _) | (with_reducible assumption) | ((with_reducible refine Below.setCell ?_ ?_ _); rotate_left; · (first | exact Nat.le_refl _ | (simp; done) | (simp; omega) | omega)) | ((with_reducible refine Below.alloc ?_ ?_ _); rotate_left; · (first | exact Nat.le_refl _ | (simp; done) | (simp; omega) | omega)) | (with_reducible apply Below.drew) | (with_reducible apply below_drewN') | (refine Below.trans ?_ (Below.mono (by assumption) (by first | exact Nat.le_refl _ | (simp; done) | (simp; omega) | omega))) | exact Below.refl _ _ | assumption)) (by repeat (first | (with_reducible exact Below.refl _ _) | (with_reducible assumption) | ((with_reducible refine Below.setCell ?_ ?_ _); rotate_left; · (first | exact Nat.le_refl _ | (simp; done) | (simp; omega) | omega)) | ((with_reducible refine Below.alloc ?_ ?_ _); rotate_left; · (first | exact Nat.le_refl _ | (simp; done) | (simp; omega) | omega)) | (with_reducible apply Below.drew) | (with_reducible apply below_drewN') | (refine Below.trans ?_ (Below.mono (by assumption) (by first | exact Nat.le_refl _ | (simp; done) | (simp; omega) | omega))) | exact Below.refl _ _ | assumption))
  case ca4R10 => (first | (simp [Act.put]; done) | (simp [Act.put, *]; done))
  try dsimp only
  refine wpW_det (t' := ?ct5R10) 5 (by rfl) (by kernel_rfl) (NQ_free _) (by kernel_rfl) ?cw5R10 ?ch5R10 ?ca5R10 (Eq.refl _) ?cH5R10
  case cw5R10 => (go_simp; done)
  case ch5R10 =>
    intro ds w' hS K hK
    have hc := (bcell hS).1
    have hf := (bcell hS).2
    have hz := hS.size
    try simp at hz
    go_simp
    try go_bits
    first
      | exact hK _ hS (Gr.refl _)
      | exact hK _ (by repeat (first | (with_reducible exact Below.refl _ _) | (with_reducible assumption) | ((with_reducible refine Below.setCell ?_ ?_ _); rotate_left; · (first | exact Nat.le_refl _ | (simp; done) | (simp; omega) | omega)) | ((with_reducible refine Below.alloc ?_ ?_ _); rotate_left; · (first | exact Nat.le_refl _ | (simp; done) | (simp; omega) | omega)) | (with_reducible apply Below.drew) | (with_reducible apply below_drewN') | (refine Below.trans ?_ (Below.mono (by assumption) (by first | exact Nat.le_refl _ | (simp; done) | (simp; omega) | omega))) | exact Below.refl _ _ | assumption)) (by repeat (first | (with_reducible exact Below.refl _ _) | (with_reducible assumption) | ((with_reducible refine Below.setCell ?_ ?_ _); rotate_left; · (first | exact Nat.le_refl _ | (simp; done) | (simp; omega) | omega)) | ((with_reducible refine Below.alloc ?_ ?_ _); rotate_left; · (first | exact Nat.le_refl _ | (simp; done) | (simp; omega) | omega)) | (with_reducible apply Below.drew) | (with_reducible apply below_drewN') | (refine Below.trans ?_ (Below.mono (by assumption) (by first | exact Nat.le_refl _ | (simp; done) | (simp; omega) | omega))) | exact Below.refl _ _ | assumption))
  case ca5R10 => (first | (simp [Act.put]; done) | (simp [Act.put, *]; done))
  try dsimp only
  refine wpW_det (t' := ?ct6R10) 6 (by rfl) (by kernel_rfl) (NQ_free _) (by kernel_rfl) ?cw6R10 ?ch6R10 ?ca6R10 (Eq.refl _) ?cH6R10
  case cw6R10 => (go_simp; done)
  case ch6R10 =>
    intro ds w' hS K hK
    have hc := (bcell hS).1
    have hf := (bcell hS).2
    have hz := hS.size
    try simp at hz
    go_simp
    try go_bits
    first
      | exact hK _ hS (Gr.refl _)
      | exact hK _ (by repeat (first | (with_reducible exact Below.refl _ _) | (with_reducible assumption) | ((with_reducible refine Below.setCell ?_ ?_ _); rotate_left; · (first | exact Nat.le_refl _ | (simp; done) | (simp; omega) | omega)) | ((with_reducible refine Below.alloc ?_ ?_ _); rotate_left; · (first | exact Nat.le_refl _ | (simp; done) | (simp; omega) | omega)) | (with_reducible apply Below.drew) | (with_reducible apply below_drewN') | (refine Below.trans ?_ (Below.mono (by assumption) (by first | exact Nat.le_refl _ | (simp; done) | (simp; omega) | omega))) | exact Below.refl _ _ | assumption)) (by repeat (first | (with_reducible exact Below.refl _ _) | (with_reducible assumption) | ((with_reducible refine Below.setCell ?_ ?_ _); rotate_left; · (first | exact Nat.le_refl _ | (simp; done) | (simp; omega) | omega)) | ((with_reducible refine Below.alloc ?_ ?_ _); rotate_left; · (first | exact Nat.le_refl _ | (simp; done) | (simp; omega) | omega)) | (with_reducible apply Below.drew) | (with_reducible apply below_drewN') | (refine Below.trans ?_ (Below.mono (by assumption) (by first | exact Nat.le_refl _ | (simp; done) | (simp; omega) | omega))) | exact Below.refl _ _ | assumption))
  case ca6R10 => (first | (simp [Act.put]; done) | (simp [Act.put, *]; done))
  try dsimp only
  refine wpW_det (t' := ?ct7R10) 7 (by rfl) (by kernel_rfl) (NQ_free _) (by kernel_rfl) ?cw7R10 ?ch7R10 ?ca7R10 (Eq.refl _) ?cH7R10
  case cw7R10 => (go_simp; done)
  case ch7R10 =>
    intro ds w' hS K hK
    have hc := (bcell hS).1
    have hf := (bcell hS).2
    have hz := hS.size
    try simp at hz
    go_simp
    try go_bits
    first
      | exact hK _ hS (Gr.refl _)
      | exact hK _ (by repeat (first | (with_reducible exact Below.refl _ _) | (with_reducible assumption) | ((with_reducible refine Below.setCell ?_ ?_ _); rotate_left; · (first | exact Nat.le_refl _ | (simp; done) | (simp; omega) | omega)) | ((with_reducible refine Below.alloc ?_ ?_ _); rotate_left; · (first | exact Nat.le_refl _ | (simp; done) | (simp; omega) | omega)) | (with_reducible apply Below.drew) | (with_reducible apply below_drewN') | (refine Below.trans ?_ (Below.mono (by assumption) (by first | exact Nat.le_refl _ | (simp; done) | (simp; omega) | omega))) | exact Below.refl _ _ | assumption)) (by repeat (first | (with_reducible exact Below.refl _ _) | (with_reducible assumption) | ((with_reducible refine Below.setCell ?_ ?_ _); rotate_left; · (first | exact Nat.le_refl _ | (simp; done) | (simp; omega) | omega)) | ((with_reducible refine Below.alloc ?_ ?_ _); rotate_left; · (first | exact Nat.le_refl _ | (simp; done) | (simp; omega) | omega)) | (with_reducible apply Below.drew) | (with_reducible apply below_drewN') | (refine Below.trans ?_ (Below.mono (by assumption) (by first | exact Nat.le_refl _ | (simp; done) | (simp; omega) | omega))) | exact Below.refl _ _ | assumption))
  case ca7R10 => (first | (simp [Act.put]; done) | (simp [Act.put, *]; done))
  try dsimp only
  refine wpW_det (t' := ?ct8R10) 8 (by rfl) (by kernel_rfl) (NQ_free _) (by kernel_rfl) ?cw8R10 ?ch8R10 ?ca8R10 (Eq.refl _) ?cH8R10
  case cw8R10 => (go_simp; done)
  case ch8R10 =>
    intro ds w' hS K hK
    have hc := (bcell hS).1
    have hf := (bcell hS).2
    have hz := hS.size
    try simp at hz
    go_simp
    try go_bits
    first
      | exact hK _ hS (Gr.refl _)
      | exact hK _ (by repeat (first | (with_reducible exact Below.refl _ _) | (with_reducible assumption) | ((with_reducible refine Below.setCell ?_ ?_ _); rotate_left; · (first | exact Nat.le_refl _ | (simp; done) | (simp; omega) | omega)) | ((with_reducible refine Below.alloc ?_ ?_ _); rotate_left; · (first | exact Nat.le_refl _ | (simp; done) | (simp; omega) | omega)) | (with_reducible apply Below.drew) | (with_reducible apply below_drewN') | (refine Below.trans ?_ (Below.mono (by assumption) (by first | exact Nat.le_refl _ | (simp; done) | (simp; omega) | omega))) | exact Below.refl _ _ | assumption)) (by repeat (first | (with_reducible exact Below.refl _ _) | (with_reducible assumption) | ((with_reducible refine Below.setCell ?_ ?_ _); rotate_left; · (first | exact Nat.le_refl _ | (simp; done) | (simp; omega) | omega)) | ((with_reducible refine Below.alloc ?_ ?_ _); rotate_left; · (first | exact Nat.le_refl _ | (simp; done) | (simp; omega) | omega)) | (with_reducible apply Below.drew) | (with_reducible apply below_drewN') | (refine Below.trans ?_ (Below.mono (by assumption) (by first | exact Nat.le_refl _ | (simp; done) | (simp; omega) | omega))) | exact Below.refl _ _ | assumption))
  case ca8R10 => (first | (simp [Act.put]; done) | (simp [Act.put, *]; done))
  try dsimp only
  refine wpW_det (t' := ?ct9R10) 9 (by rfl) (by kernel_rfl) (NQ_free _) (by kernel_rfl) ?cw9R10 ?ch9R10 ?ca9R10 (Eq.refl _) ?cH9R10
  case cw9R10 => (go_simp; done)
  case ch9R10 =>
    intro ds w' hS K hK
    have hc := (bcell hS).1
    have hf := (bcell hS).2
    have hz := hS.size
    try simp at hz
    go_simp
    try go_bits
    first
      | exact hK _ hS (Gr.refl _)
      | exact hK _ (by repeat (first | (with_reducible exact Below.refl _ _) | (with_reducible assumption) | ((with_reducible refine Below.setCell ?_ ?_ _); rotate_left; · (first | exact Nat.le_refl _ | (simp; done) | (simp; omega) | omega)) | ((with_reducible refine Below.alloc ?_ ?_ _); rotate_left; · (first | exact Nat.le_refl _ | (simp; done) | (simp; omega) | omega)) | (with_reducible apply Below.drew) | (with_reducible apply below_drewN') | (refine Below.trans ?_ (Below.mono (by assumption) (by first | exact Nat.le_refl _ | (simp; done) | (simp; omega) | omega))) | exact Below.refl _ _ | assumption)) (by repeat (first | (with_reducible exact Below.refl _ _) | (with_reducible assumption) | ((with_reducible refine Below.setCell ?_ ?_ _); rotate_left; · (first | exact Nat.le_refl _ | (simp; done) | (simp; omega) | omega)) | ((with_reducible refine Below.alloc ?_ ?_ _); rotate_left; · (first | exact Nat.le_refl _ | (simp; done) | (simp; omega) | omega)) | (with_reducible apply Below.drew) | (with_reducible apply below_drewN') | (refine Below.trans ?_ (Below.mono (by assumption) (by first | exact Nat.le_refl _ | (simp; done) | (simp; omega) | omega))) | exact Below.refl _ _ | assumption))
  case ca9R10 => (first | (simp [Act.put]; done) | (simp [Act.put, *]; done))
  try dsimp only
  refine wpW_det (t' := ?ct10R10) 10 (by rfl) (by kernel_rfl) (NQ_free _) (by kernel_rfl) ?cw10R10 ?ch10R10 ?ca10R10 (Eq.refl _) ?cH10R10
  case cw10R10 => (go_simp; done)
  case ch10R10 =>
    intro ds w' hS K hK
    have hc := (bcell hS).1
    have hf := (bcell hS).2
    have hz := hS.size
    try simp at hz
    go_simp
    try go_bits
    first
      | exact hK _ hS (Gr.refl _)
      | exact hK _ (by repeat (first | (with_reducible exact Below.refl _ _) | (with_reducible assumption) | ((with_reducible refine Below.setCell ?_ ?_ _); rotate_left; · (first | exact Nat.le_refl _ | (simp; done) | (simp; omega) | omega)) | ((with_reducible refine Below.alloc ?_ ?_ _); rotate_left; · (first | exact Nat.le_refl _ | (simp; done) | (simp; omega) | omega)) | (with_reducible apply Below.drew) | (with_reducible apply below_drewN') | (refine Below.trans ?_ (Below.mono (by assumption) (by first | exact Nat.le_refl _ | (simp; done) | (simp; omega) | omega))) | exact Below.refl _ _ | assumption)) (by repeat (first | (with_reducible exact Below.refl _ _) | (with_reducible assumption) | ((with_reducible refine Below.setCell ?_ ?_ _); rotate_left; · (first | exact Nat.le_refl _ | (simp; done) | (simp; omega) | omega)) | ((with_reducible refine Below.alloc ?_ ?_ _); rotate_left; · (first | exact Nat.le_refl _ | (simp; done) | (simp; omega) | omega)) | (with_reducible apply Below.drew) | (with_reducible apply below_drewN') | (refine Below.trans ?_ (Below.mono (by assumption) (by first | exact Nat.le_refl _ | (simp; done) | (simp; omega) | omega))) | exact Below.refl _ _ | assumption))
  case ca10R10 => (first | (simp [Act.put]; done) | (simp [Act.put, *]; done))
  try dsimp only
  refine wpW_det (t' := ?ct11R10) 11 (by rfl) (by kernel_rfl) (NQ_free _) (by kernel_rfl) ?cw11R10 ?ch11R10 ?ca11R10 (Eq.refl _) ?cH11R10
  case cw11R10 => (go_simp; done)
  case ch11R10 =>
    intro ds w' hS K hK
    have hc := (bcell hS).1
    have hf := (bcell hS).2
    have hz := hS.size
    try simp at hz
    go_simp
    try go_bits
    first
      | exact hK _ hS (Gr.refl _)
      | exact hK _ (by repeat (first | (with_reducible exact Below.refl _ _) | (with_reducible assumption) | ((with_reducible refine Below.setCell ?_ ?_ _); rotate_left; · (first | exact Nat.le_refl _ | (simp; done) | (simp; omega) | omega)) | ((with_reducible refine Below.alloc ?_ ?_ _); rotate_left; · (first | exact Nat.le_refl _ | (simp; done) | (simp; omega) | omega)) | (with_reducible apply Below.drew) | (with_reducible apply below_drewN') | (refine Below.trans ?_ (Below.mono (by assumption) (by first | exact Nat.le_refl _ | (simp; done) | (simp; omega) | omega))) | exact Below.refl _ _ | assumption)) (by repeat (first | (with_reducible exact Below.refl _ _) | (with_reducible assumption) | ((with_reducible refine Below.setCell ?_ ?_ _); rotate_left; · (first | exact Nat.le_refl _ | (simp; done) | (simp; omega) | omega)) | ((with_reducible refine Below.alloc ?_ ?_ _); rotate_left; · (first | exact Nat.le_refl _ | (simp; done) | (simp; omega) | omega)) | (with_reducible apply Below.drew) | (with_reducible apply below_drewN') | (refine Below.trans ?_ (Below.mono (by assumption) (by first | exact Nat.le_refl _ | (simp; done) | (simp; omega) | omega))) | exact Below.refl _ _ | assumption))
  case ca11R10 => (first | (simp [Act.put]; done) | (simp [Act.put, *]; done))
  try dsimp only
  clear d0 lg lb c5 c13
  refine wpW_branch [12] (by kernel_rfl) (by simp) ?_
  intro w12 hg_w12 hS_w12
  refine each_cons ?_ each_nil
  refine wpOp_go (by rfl) (Eq.refl _) (by go_simp; done) ?_
  intro K hK
  go_simp
  try simp only [Act.put]
  refine (HVA.out _ hS_w12).mono ?_
  rintro e wq ⟨hV, hBq⟩
  obtain ⟨V, rfl, hVV⟩ := hV.one
  clear hV
  refine hK _ _ (Below.trans hS_w12 (hBq.mono (Below.size hS_w12))) ?_
  clear hK K hBq
  refine wpW_det (t' := ?ct13R11) 13 (by rfl) (by kernel_rfl) (NQ_free _) (by kernel_rfl) ?cw13R11 ?ch13R11 ?ca13R11 (Eq.refl _) ?cH13R11
  case cw13R11 => (go_simp; done)
  case ch13R11 =>
    intro ds w' hS K hK
    have hc := (bcell hS).1
    have hf := (bcell hS).2
    have hz := hS.size
    try simp at hz
    go_simp
    try go_bits
    first
      | exact hK _ hS (Gr.refl _)
      | exact hK _ (by repeat (first | (with_reducible exact Below.refl _ _) | (with_reducible assumption) | ((with_reducible refine Below.setCell ?_ ?_ _); rotate_left; · (first | exact Nat.le_refl _ | (simp; done) | (simp; omega) | omega)) | ((with_reducible refine Below.alloc ?_ ?_ _); rotate_left; · (first | exact Nat.le_refl _ | (simp; done) | (simp; omega) | omega)) | (with_reducible apply Below.drew) | (with_reducible apply below_drewN') | (refine Below.trans ?_ (Below.mono (by assumption) (by first | exact Nat.le_refl _ | (simp; done) | (simp; omega) | omega))) | exact Below.refl _ _ | assumption)) (by repeat (first | (with_reducible exact Below.refl _ _) | (with_reducible assumption) | ((with_reducible refine Below.setCell ?_ ?_ _); rotate_left; · (first | exact Nat.le_refl _ | (simp; done) | (simp; omega) | omega)) | ((with_reducible refine Below.alloc ?_ ?_ _); rotate_left; · (first | exact Nat.le_refl _ | (simp; done) | (simp; omega) | omega)) | (with_reducible apply Below.drew) | (with_reducible apply below_drewN') | (refine Below.trans ?_ (Below.mono (by assumption) (by first | exact Nat.le_refl _ | (simp; done) | (simp; omega) | omega))) | exact Below.refl _ _ | assumption))
  case ca13R11 => (first | (simp [Act.put]; done) | (simp [Act.put, *]; done))
  try dsimp only
  refine wpW_det (t' := ?ct14R11) 14 (by rfl) (by kernel_rfl) (NQ_free _) (by kernel_rfl) ?cw14R11 ?ch14R11 ?ca14R11 (Eq.refl _) ?cH14R11
  case cw14R11 => (go_simp; done)
  case ch14R11 =>
    intro ds w' hS K hK
    have hc := (bcell hS).1
    have hf := (bcell hS).2
    have hz := hS.size
    try simp at hz
    go_simp
    try go_bits
    first
      | exact hK _ hS (Gr.refl _)
      | exact hK _ (by repeat (first | (with_reducible exact Below.refl _ _) | (with_reducible assumption) | ((with_reducible refine Below.setCell ?_ ?_ _); rotate_left; · (first | exact Nat.le_refl _ | (simp; done) | (simp; omega) | omega)) | ((with_reducible refine Below.alloc ?_ ?_ _); rotate_left; · (first | exact Nat.le_refl _ | (simp; done) | (simp; omega) | omega)) | (with_reducible apply Below.drew) | (with_reducible apply below_drewN') | (refine Below.trans ?_ (Below.mono (by assumption) (by first | exact Nat.le_refl _ | (simp; done) | (simp; omega) | omega))) | exact Below.refl _ _ | assumption)) (by repeat (first | (with_reducible exact Below.refl _ _) | (with_reducible assumption) | ((with_reducible refine Below.setCell ?_ ?_ _); rotate_left; · (first | exact Nat.le_refl _ | (simp; done) | (simp; omega) | omega)) | ((with_reducible refine Below.alloc ?_ ?_ _); rotate_left; · (first | exact Nat.le_refl _ | (simp; done) | (simp; omega) | omega)) | (with_reducible apply Below.drew) | (with_reducible apply below_drewN') | (refine Below.trans ?_ (Below.mono (by assumption) (by first | exact Nat.le_refl _ | (simp; done) | (simp; omega) | omega))) | exact Below.refl _ _ | assumption))
  case ca14R11 => (first | (simp [Act.put]; done) | (simp [Act.put, *]; done))
  try dsimp only
  refine wpW_det (t' := ?ct15R11) 15 (by rfl) (by kernel_rfl) (NQ_free _) (by kernel_rfl) ?cw15R11 ?ch15R11 ?ca15R11 (Eq.refl _) ?cH15R11
  case cw15R11 => (go_simp; done)
  case ch15R11 =>
    intro ds w' hS K hK
    have hc := (bcell hS).1
    have hf := (bcell hS).2
    have hz := hS.size
    try simp at hz
    go_simp
    try go_bits
    first
      | exact hK _ hS (Gr.refl _)
      | exact hK _ (by repeat (first | (with_reducible exact Below.refl _ _) | (with_reducible assumption) | ((with_reducible refine Below.setCell ?_ ?_ _); rotate_left; · (first | exact Nat.le_refl _ | (simp; done) | (simp; omega) | omega)) | ((with_reducible refine Below.alloc ?_ ?_ _); rotate_left; · (first | exact Nat.le_refl _ | (simp; done) | (simp; omega) | omega)) | (with_reducible apply Below.drew) | (with_reducible apply below_drewN') | (refine Below.trans ?_ (Below.mono (by assumption) (by first | exact Nat.le_refl _ | (simp; done) | (simp; omega) | omega))) | exact Below.refl _ _ | assumption)) (by repeat (first | (with_reducible exact Below.refl _ _) | (with_reducible assumption) | ((with_reducible refine Below.setCell ?_ ?_ _); rotate_left; · (first | exact Nat.le_refl _ | (simp; done) | (simp; omega) | omega)) | ((with_reducible refine Below.alloc ?_ ?_ _); rotate_left; · (first | exact Nat.le_refl _ | (simp; done) | (simp; omega) | omega)) | (with_reducible apply Below.drew) | (with_reducible apply below_drewN') | (refine Below.trans ?_ (Below.mono (by assumption) (by first | exact Nat.le_refl _ | (simp; done) | (simp; omega) | omega))) | exact Below.refl _ _ | assumption))
  case ca15R11 => (first | (simp [Act.put]; done) | (simp [Act.put, *]; done))
  try dsimp only
  refine wpW_det (t' := ?ct16R11) 16 (by rfl) (by kernel_rfl) (NQ_free _) (by kernel_rfl) ?cw16R11 ?ch16R11 ?ca16R11 (Eq.refl _) ?cH16R11
  case cw16R11 => (go_simp; done)
  case ch16R11 =>
    intro ds w' hS K hK
    have hc := (bcell hS).1
    have hf := (bcell hS).2
    have hz := hS.size
    try simp at hz
    go_simp
    try go_bits
    first
      | exact hK _ hS (Gr.refl _)
      | exact hK _ (by repeat (first | (with_reducible exact Below.refl _ _) | (with_reducible assumption) | ((with_reducible refine Below.setCell ?_ ?_ _); rotate_left; · (first | exact Nat.le_refl _ | (simp; done) | (simp; omega) | omega)) | ((with_reducible refine Below.alloc ?_ ?_ _); rotate_left; · (first | exact Nat.le_refl _ | (simp; done) | (simp; omega) | omega)) | (with_reducible apply Below.drew) | (with_reducible apply below_drewN') | (refine Below.trans ?_ (Below.mono (by assumption) (by first | exact Nat.le_refl _ | (simp; done) | (simp; omega) | omega))) | exact Below.refl _ _ | assumption)) (by repeat (first | (with_reducible exact Below.refl _ _) | (with_reducible assumption) | ((with_reducible refine Below.setCell ?_ ?_ _); rotate_left; · (first | exact Nat.le_refl _ | (simp; done) | (simp; omega) | omega)) | ((with_reducible refine Below.alloc ?_ ?_ _); rotate_left; · (first | exact Nat.le_refl _ | (simp; done) | (simp; omega) | omega)) | (with_reducible apply Below.drew) | (with_reducible apply below_drewN') | (refine Below.trans ?_ (Below.mono (by assumption) (by first | exact Nat.le_refl _ | (simp; done) | (simp; omega) | omega))) | exact Below.refl _ _ | assumption))
  case ca16R11 => (first | (simp [Act.put]; done) | (simp [Act.put, *]; done))
  try dsimp only
  refine wpW_det (t' := ?ct17R11) 17 (by rfl) (by kernel_rfl) (NQ_free _) (by kernel_rfl) ?cw17R11 ?ch17R11 ?ca17R11 (Eq.refl _) ?cH17R11
  case cw17R11 => (go_simp; done)
  case ch17R11 =>
    intro ds w' hS K hK
    have hc := (bcell hS).1
    have hf := (bcell hS).2
    have hz := hS.size
    try simp at hz
    go_simp
    try go_bits
    first
      | exact hK _ hS (Gr.refl _)
      | exact hK _ (by repeat (first | (with_reducible exact Below.refl _ _) | (with_reducible assumption) | ((with_reducible refine Below.setCell ?_ ?_ _); rotate_left; · (first | exact Nat.le_refl _ | (simp; done) | (simp; omega) | omega)) | ((with_reducible refine Below.alloc ?_ ?_ _); rotate_left; · (first | exact Nat.le_refl _ | (simp; done) | (simp; omega) | omega)) | (with_reducible apply Below.drew) | (with_reducible apply below_drewN') | (refine Below.trans ?_ (Below.mono (by assumption) (by first | exact Nat.le_refl _ | (simp; done) | (simp; omega) | omega))) | exact Below.refl _ _ | assumption)) (by repeat (first | (with_reducible exact Below.refl _ _) | (with_reducible assumption) | ((with_reducible refine Below.setCell ?_ ?_ _); rotate_left; · (first | exact Nat.le_refl _ | (simp; done) | (simp; omega) | omega)) | ((with_reducible refine Below.alloc ?_ ?_ _); rotate_left; · (first | exact Nat.le_refl _ | (simp; done) | (simp; omega) | omega)) | (with_reducible apply Below.drew) | (with_reducible apply below_drewN') | (refine Below.trans ?_ (Below.mono (by assumption) (by first | exact Nat.le_refl _ | (simp; done) | (simp; omega) | omega))) | exact Below.refl _ _ | assumption))
  case ca17R11 => (first | (simp [Act.put]; done) | (simp [Act.put, *]; done))
  try dsimp only
  refine wpW_end (by kernel_rfl) ?_
  intro W6 hg6 hS6
  unfold NQ
  dsimp only
  have hB6 := hB5.trans (hS6.mono hB5.size)
  have b6 := b5.below hS6 b5.lt
  have HX6 := Lib.hid (HX5.out.below hS6 (Nat.le_refl _))
  have HSL : Hid (atE s.st st.ev mi = 0 → s.st.length ≤ 10) := Lib.hid atE_len
  have HV : Hid (atE s.st st.ev mi = 0 → ∃ N, W6.ownsRow N 4 1 V s.st.length (boolC (validL s.st st.ev mi))) := Lib.hid fun e => ⟨_, own_below (hVV e) hg6⟩
  clear hg6 hS6 hVV HX5 b5 hB5 HVA
  obtain ⟨ae, hae⟩ : ∃ ae, atE s.st st.ev mi = ae := ⟨_, rfl⟩
  rw [hae] at HE HV HSL ⊢
  clear hae
  by_cases ha : ae = 0
  · subst ha
    obtain ⟨N, hv⟩ := HV.out rfl
    replace HE := Lib.hid (HE.out.trans (if_neg (by simp)))
    obtain ⟨AV, cv, e9, _, _, hRV⟩ := Row.ownd hv
    subst e9
    have hvl : (validL s.st st.ev mi).length = s.st.length := by unfold validL; simp
    have HCB := Lib.hid (containsB (validL s.st st.ev mi) AV cv false _ W6 (by have := HSL.out rfl; omega) (by rw [hvl]; exact hRV))
    rw [hvl] at HCB
    clear hv hRV hvl HV
    generalize (validL s.st st.ev mi).any (fun y => false == y) = bad at *
    cases bad
    · replace HE := Lib.hid (HE.out.trans (if_neg (by simp)))
      obtain ⟨c0, c1, c2, c3, c4, c5, c6, c7, c8, c9, c10, c11, c12, c13, c14, c15, c16, cf⟩ := blk17 HX6.out.blk
      have lb := HX6.out.blk.lt
      clear c0 c1 c2 c3 c4 c5 c6 c7 c8 c9 c10 c11 c12 c13 c15 c16 cf HSL
      by_cases hfull : st.sc.length = 200
      · replace HE := Lib.hid (HE.out.trans (if_pos hfull))
        have hf1 : ((st.sc.length : Int) == 200) = true := by rw [hfull]; rfl
        clear hfull
        go_wp2_with (go_at_call 96; refine HCB.out.mono ?_; rintro e w1 ⟨rfl, rfl⟩)
        go_ret
        exact ⟨⟨by rw [HE.out]; rfl, fun _ => HX6.out, fun e => by rw [HE.out] at e; cases e⟩, hB6.mono hbw⟩
      replace HE := Lib.hid (HE.out.trans (if_neg hfull))
      have hf1 : ((st.sc.length : Int) == 200) = false := by simp; omega
      have hlim := HX6.out.lim.sc
      have HFU := Lib.hid hfull; clear hfull
      go_upto_region 16 with (go_at_call 96; refine HCB.out.mono ?_; rintro e w1 ⟨rfl, rfl⟩)
      clear c14 lb hf1 HCB
      have HSB : Hid ((Value.slice a.sA st.sc.length a.sc).ownBlock ≠ some gn) := Lib.hid fun e => by
        have := (HI.out.sc.lt gn e).2
        omega
      have hls : st.sc.length < 200 := by have := HFU.out; omega
      refine wp_region_w (fun w' => Blk w' gn 140 #[.int .i64 mi, .int .i64 po, .bool false]) (by kernel_rfl) (b6.drew) ?_
      refine wpW_det (t' := ?ct0R12) 0 (by rfl) (by kernel_rfl) (NQ_free _) (by kernel_rfl) ?cw0R12 ?ch0R12 ?ca0R12 (Eq.refl _) ?cH0R12
      case cw0R12 => (go_simp; done)
      case ch0R12 =>
        intro ds w' hS K hK
        obtain ⟨z0, z1, z2, zf⟩ := blkz3 hS
        have lz := Blk.lt hS
        go_simp
        try go_bits
        exact hK _ hS (Gr.refl _)
      case ca0R12 => (first | (simp [Act.put]; done) | (simp [Act.put, *]; done))
      try dsimp only
      refine wpW_det (t' := ?ct1R12) 1 (by rfl) (by kernel_rfl) (NQ_free _) (by kernel_rfl) ?cw1R12 ?ch1R12 ?ca1R12 (Eq.refl _) ?cH1R12
      case cw1R12 => (go_simp; done)
      case ch1R12 =>
        intro ds w' hS K hK
        obtain ⟨z0, z1, z2, zf⟩ := blkz3 hS
        have lz := Blk.lt hS
        go_simp
        try go_bits
        exact hK _ hS (Gr.refl _)
      case ca1R12 => (first | (simp [Act.put]; done) | (simp [Act.put, *]; done))
      try dsimp only
      refine wpW_det (t' := ?ct2R12) 2 (by rfl) (by kernel_rfl) (NQ_free _) (by kernel_rfl) ?cw2R12 ?ch2R12 ?ca2R12 (Eq.refl _) ?cH2R12
      case cw2R12 => (go_simp; done)
      case ch2R12 =>
        intro ds w' hS K hK
        obtain ⟨z0, z1, z2, zf⟩ := blkz3 hS
        have lz := Blk.lt hS
        go_simp
        try go_bits
        exact hK _ hS (Gr.refl _)
      case ca2R12 => (first | (simp [Act.put]; done) | (simp [Act.put, *]; done))
      try dsimp only
      refine wpW_det (t' := ?ct3R12) 3 (by rfl) (by kernel_rfl) (NQ_free _) (by kernel_rfl) ?cw3R12 ?ch3R12 ?ca3R12 (Eq.refl _) ?cH3R12
      case cw3R12 => (go_simp; done)
      case ch3R12 =>
        intro ds w' hS K hK
        obtain ⟨z0, z1, z2, zf⟩ := blkz3 hS
        have lz := Blk.lt hS
        go_simp
        try go_bits
        exact hK _ hS (Gr.refl _)
      case ca3R12 => (first | (simp [Act.put]; done) | (simp [Act.put, *]; done))
      try dsimp only
      refine wpW_det (t' := ?ct4R12) 4 (by rfl) (by kernel_rfl) (NQ_free _) (by kernel_rfl) ?cw4R12 ?ch4R12 ?ca4R12 (Eq.refl _) ?cH4R12
      case cw4R12 => (go_simp; done)
      case ch4R12 =>
        intro ds w' hS K hK
        obtain ⟨z0, z1, z2, zf⟩ := blkz3 hS
        have lz := Blk.lt hS
        go_simp
        try go_bits
        exact hK _ hS (Gr.refl _)
      case ca4R12 => (first | (simp [Act.put]; done) | (simp [Act.put, *]; done))
      try dsimp only
      refine wpW_det (t' := ?ct6R12) 6 (by rfl) (by kernel_rfl) (NQ_free _) (by kernel_rfl) ?cw6R12 ?ch6R12 ?ca6R12 (Eq.refl _) ?cH6R12
      case cw6R12 => (go_simp; done)
      case ch6R12 =>
        intro ds w' hS K hK
        obtain ⟨z0, z1, z2, zf⟩ := blkz3 hS
        have lz := Blk.lt hS
        go_simp
        try go_bits
        exact hK _ hS (Gr.refl _)
      case ca6R12 => (first | (simp [Act.put]; done) | (simp [Act.put, *]; done))
      try dsimp only
      have hI : Isp s m B base bx a st W6.drew := HX6.out.below (C := W6.heap.size) ⟨rfl, rfl, rfl, Nat.le_refl _, fun _ _ => rfl⟩ (Nat.le_refl _)
      have z : Blk W6.drew gn 140 #[.int .i64 mi, .int .i64 po, .bool false] := b6.drew
      have hBb : Below base W6 W6.drew := ⟨rfl, rfl, rfl, Nat.le_refl _, fun _ _ => rfl⟩
      have hbs : base ≤ W6.drew.heap.size := Nat.le_trans hbw hB6.size
      have hle := hI.le; have hlo := hI.lo
      have HLIM : Hid (InLim { st with sc := st.sc ++ [⟨mi, po, false⟩] }) := Lib.hid ⟨hI.lim.ev, by simp; omega, hI.lim.ms, fun x hx => by
        rcases List.mem_append.1 hx with h | h
        · exact hI.lim.pos x h
        · obtain rfl := List.mem_singleton.1 h
          have w1 := wi_true Q1.out; have w2 := wi_true Q2.out
          dsimp only; omega⟩
      clear b6
      refine wpW_branch [5, 7] (by kernel_rfl) (by simp) ?_
      intro w1 hg1 hS1
      replace z := Blk.gr z hg1
      replace hI := hI.below hg1 (Nat.le_refl _)
      replace hBb := Below.trans hBb (Below.mono hg1 hbs)
      replace hbs := Nat.le_trans hbs (Below.size hg1)
      obtain ⟨k0, k1, k2, k3, k4, k5, k6, k7, k8, k9, k10, k11, k12, k13, k14, k15, k16, kf⟩ := blk17 hI.blk
      have lb := hI.blk.lt
      clear k0 k1 k2 k3 k4 k5 k6 k7 k8 k9 k10 k11 k12 k13 k15 k16 kf
      refine each_cons ?_ (each_cons ?_ (each_nil))
      · refine wpOp_go (by rfl) (Eq.refl _) (by go_simp; done) ?_
        intro K hK
        go_simp
        try simp only [Act.put]
        refine hK _ _ z ?_
        clear hK K k14 lb
        refine wpW_branch [7] (by kernel_rfl) (by simp) ?_
        intro w2 hg2 hS2
        replace z := Blk.gr z hg2
        replace hI := hI.below hg2 (Nat.le_refl _)
        replace hBb := Below.trans hBb (Below.mono hg2 hbs)
        replace hbs := Nat.le_trans hbs (Below.size hg2)
        refine each_cons ?_ (each_nil)
        refine wpOp_go (by rfl) (Eq.refl _) (by go_simp; done) ?_
        intro K hK
        go_simp
        try simp only [Act.put]
        have bn := Blk.new w2 140 #[.int .i64 mi, .int .i64 po, .bool false]
        have hal : Gr w2 (w2.alloc (.cells #[.int .i64 mi, .int .i64 po, .bool false] 140)) := (Below.refl _ _).alloc (Nat.le_refl _) _
        replace z := Blk.gr z hal
        replace hI := hI.below hal (Nat.le_refl _)
        replace hBb := Below.trans hBb (Below.mono hal hbs)
        replace hbs := Nat.le_trans hbs (Below.size hal)
        clear hal
        try clear k14 lb
        generalize w2.heap.size = g7 at *
        refine hK _ _ z ?_
        clear hK K
        refine wpW_branch [8] (by kernel_rfl) (by simp) ?_
        intro w3 hg3 hS3
        replace z := Blk.gr z hg3
        replace hI := hI.below hg3 (Nat.le_refl _)
        replace hBb := Below.trans hBb (Below.mono hg3 hbs)
        replace hbs := Nat.le_trans hbs (Below.size hg3)
        replace bn := Blk.gr bn hg3
        refine each_cons ?_ (each_nil)
        refine wpOp_go (by rfl) (Eq.refl _) (by go_simp; done) ?_
        intro K hK
        have hsr : Src w3 3 (some ⟨g7, 0, none⟩) 1 1 [.int .i64 mi, .int .i64 po, .bool false] := Src.mk (B := w3.heap.size) ⟨rfl, fun _ => ⟨g7, 0, rfl, bn.lt, fun j u hu => by rw [Nat.zero_add, bn.cell j, List.getElem?_toArray]; exact hu⟩⟩ (fun e => by cases e)
        refine wp_append_row _ (.tmp 82) (.tmp 84) 41 rfl base 140 i0 _ 3 24 Tryz.underlying41 hi hz0 hz1 hz2 rfl (by decide) _ st.sc.length (rowsC scF st.sc) rfl hI.sc (some ⟨g7, 0, none⟩) 1 1 [.int .i64 mi, .int .i64 po, .bool false] rfl hsr (by simp [Value.oneCell']) (by unfold maxLen; omega) (by omega) hbs ?_
        intro v9 wa hv9 hgrow _
        replace z := z.grown hgrow HSB.out.symm
        obtain ⟨A9, c9, e9, _, _, _⟩ := Row.ownd hv9
        subst e9
        have hQ := hI.scGrow (n := st.sc.length + 1) (l := st.sc ++ [⟨mi, po, false⟩]) (by rw [rowsC_snoc1]; exact hv9) hgrow
        replace hBb : Below base W6 wa := hBb.grown hgrow hbs (fun r e => (hI.sc.lt r e).1)
        replace hbs := Nat.le_trans hbs hgrow.size
        clear hgrow hsr bn hv9 hI
        try simp only [Act.put]
        try simp only [List.setIfInBounds_toArray]
        refine hK _ _ z ?_
        clear hK K
        refine wpW_branch [9] (by kernel_rfl) (by simp) ?_
        intro w4 hg4 hS4
        replace z := Blk.gr z hg4
        replace hQ := hQ.below hg4 (Nat.le_refl _)
        replace hBb := Below.trans hBb (Below.mono hg4 hbs)
        replace hbs := Nat.le_trans hbs (Below.size hg4)
        obtain ⟨k0, k1, k2, k3, k4, k5, k6, k7, k8, k9, k10, k11, k12, k13, k14, k15, k16, kf⟩ := blk17 hQ.blk
        have lb := hQ.blk.lt
        clear k0 k1 k2 k3 k4 k5 k6 k7 k8 k9 k10 k11 k12 k13 k15 k16
        refine each_cons ?_ (each_nil)
        refine wpOp_go (by rfl) (Eq.refl _) (by go_simp; done) ?_
        intro K hK
        go_simp
        try simp only [Act.put]
        refine hK _ _ z ?_
        clear hK K k14 lb kf
        refine wpW_branch [10] (by kernel_rfl) (by simp) ?_
        intro w5 hg5 hS5
        replace z := Blk.gr z hg5
        replace hQ := hQ.below hg5 (Nat.le_refl _)
        replace hBb := Below.trans hBb (Below.mono hg5 hbs)
        replace hbs := Nat.le_trans hbs (Below.size hg5)
        obtain ⟨k0, k1, k2, k3, k4, k5, k6, k7, k8, k9, k10, k11, k12, k13, k14, k15, k16, kf⟩ := blk17 hQ.blk
        have lb := hQ.blk.lt
        clear k0 k1 k2 k3 k4 k5 k6 k7 k8 k9 k10 k11 k12 k13 k15 k16
        refine each_cons ?_ (each_nil)
        refine wpOp_go (by rfl) (Eq.refl _) (by go_simp; done) ?_
        intro K hK
        go_simp
        try simp only [Act.put]
        refine hK _ _ z ?_
        clear hK K k14 lb kf
        refine wpW_branch [11] (by kernel_rfl) (by simp) ?_
        intro w6 hg6 hS6
        replace z := Blk.gr z hg6
        replace hQ := hQ.below hg6 (Nat.le_refl _)
        replace hBb := Below.trans hBb (Below.mono hg6 hbs)
        replace hbs := Nat.le_trans hbs (Below.size hg6)
        obtain ⟨k0, k1, k2, k3, k4, k5, k6, k7, k8, k9, k10, k11, k12, k13, k14, k15, k16, kf⟩ := blk17 hQ.blk
        have lb := hQ.blk.lt
        clear k0 k1 k2 k3 k4 k5 k6 k7 k8 k9 k10 k11 k12 k13 k15 k16
        refine each_cons ?_ (each_nil)
        refine wpOp_go (by rfl) (Eq.refl _) (by go_simp; done) ?_
        intro K hK
        go_simp
        try simp only [Act.put]
        refine hK _ _ z ?_
        clear hK K k14 lb kf
        refine wpW_branch [12] (by kernel_rfl) (by simp) ?_
        intro w7 hg7 hS7
        replace z := Blk.gr z hg7
        replace hQ := hQ.below hg7 (Nat.le_refl _)
        replace hBb := Below.trans hBb (Below.mono hg7 hbs)
        replace hbs := Nat.le_trans hbs (Below.size hg7)
        obtain ⟨k0, k1, k2, k3, k4, k5, k6, k7, k8, k9, k10, k11, k12, k13, k14, k15, k16, kf⟩ := blk17 hQ.blk
        have lb := hQ.blk.lt
        clear k0 k1 k2 k3 k4 k5 k6 k7 k8 k9 k10 k11 k12 k13 k15 k16
        refine each_cons ?_ (each_nil)
        refine wpOp_go (by rfl) (Eq.refl _) (by go_simp; done) ?_
        intro K hK
        go_simp
        try simp only [Act.put]
        have hne : gn ≠ bx := Blk.ne_ z hQ.blk (by decide)
        have hF := hQ.store (by simp) hle hlo HLIM.out
        replace hBb := hBb.setCell (p := ⟨bx, 14, none⟩) hlo (.slice A9 (st.sc.length + 1) c9)
        replace z := z.far (p := ⟨bx, 14, none⟩) hne (.slice A9 (st.sc.length + 1) c9)
        refine hK _ _ z ?_
        clear hK K k14 lb kf hQ
        refine wpW_end (by kernel_rfl) ?_
        intro we hg hS
        unfold NQ
        dsimp only
        have hF2 := hF.below hg (Nat.le_refl _)
        have hBe := (hB6.mono hbw).trans (hBb.trans (hg.mono (by have := hF.blk.lt; omega)))
        go_wp2
        go_ret
        exact ⟨⟨by rw [HE.out]; rfl, fun e => absurd HE.out e, fun _ => ⟨_, by rw [HST.out]; exact hF2⟩⟩, hBe⟩
      · refine wpOp_go (by rfl) (Eq.refl _) (by go_simp; done) ?_
        intro K hK
        go_simp
        try simp only [Act.put]
        have bn := Blk.new w1 140 #[.int .i64 mi, .int .i64 po, .bool false]
        have hal : Gr w1 (w1.alloc (.cells #[.int .i64 mi, .int .i64 po, .bool false] 140)) := (Below.refl _ _).alloc (Nat.le_refl _) _
        replace z := Blk.gr z hal
        replace hI := hI.below hal (Nat.le_refl _)
        replace hBb := Below.trans hBb (Below.mono hal hbs)
        replace hbs := Nat.le_trans hbs (Below.size hal)
        clear hal
        try clear k14 lb
        generalize w1.heap.size = g7 at *
        refine hK _ _ z ?_
        clear hK K
        refine wpW_branch [5] (by kernel_rfl) (by simp) ?_
        intro w2 hg2 hS2
        replace z := Blk.gr z hg2
        replace hI := hI.below hg2 (Nat.le_refl _)
        replace hBb := Below.trans hBb (Below.mono hg2 hbs)
        replace hbs := Nat.le_trans hbs (Below.size hg2)
        replace bn := Blk.gr bn hg2
        obtain ⟨k0, k1, k2, k3, k4, k5, k6, k7, k8, k9, k10, k11, k12, k13, k14, k15, k16, kf⟩ := blk17 hI.blk
        have lb := hI.blk.lt
        clear k0 k1 k2 k3 k4 k5 k6 k7 k8 k9 k10 k11 k12 k13 k15 k16 kf
        refine each_cons ?_ (each_nil)
        refine wpOp_go (by rfl) (Eq.refl _) (by go_simp; done) ?_
        intro K hK
        go_simp
        try simp only [Act.put]
        refine hK _ _ z ?_
        clear hK K k14 lb
        refine wpW_branch [8] (by kernel_rfl) (by simp) ?_
        intro w3 hg3 hS3
        replace z := Blk.gr z hg3
        replace hI := hI.below hg3 (Nat.le_refl _)
        replace hBb := Below.trans hBb (Below.mono hg3 hbs)
        replace hbs := Nat.le_trans hbs (Below.size hg3)
        replace bn := Blk.gr bn hg3
        refine each_cons ?_ (each_nil)
        refine wpOp_go (by rfl) (Eq.refl _) (by go_simp; done) ?_
        intro K hK
        have hsr : Src w3 3 (some ⟨g7, 0, none⟩) 1 1 [.int .i64 mi, .int .i64 po, .bool false] := Src.mk (B := w3.heap.size) ⟨rfl, fun _ => ⟨g7, 0, rfl, bn.lt, fun j u hu => by rw [Nat.zero_add, bn.cell j, List.getElem?_toArray]; exact hu⟩⟩ (fun e => by cases e)
        refine wp_append_row _ (.tmp 82) (.tmp 84) 41 rfl base 140 i0 _ 3 24 Tryz.underlying41 hi hz0 hz1 hz2 rfl (by decide) _ st.sc.length (rowsC scF st.sc) rfl hI.sc (some ⟨g7, 0, none⟩) 1 1 [.int .i64 mi, .int .i64 po, .bool false] rfl hsr (by simp [Value.oneCell']) (by unfold maxLen; omega) (by omega) hbs ?_
        intro v9 wa hv9 hgrow _
        replace z := z.grown hgrow HSB.out.symm
        obtain ⟨A9, c9, e9, _, _, _⟩ := Row.ownd hv9
        subst e9
        have hQ := hI.scGrow (n := st.sc.length + 1) (l := st.sc ++ [⟨mi, po, false⟩]) (by rw [rowsC_snoc1]; exact hv9) hgrow
        replace hBb : Below base W6 wa := hBb.grown hgrow hbs (fun r e => (hI.sc.lt r e).1)
        replace hbs := Nat.le_trans hbs hgrow.size
        clear hgrow hsr bn hv9 hI
        try simp only [Act.put]
        try simp only [List.setIfInBounds_toArray]
        refine hK _ _ z ?_
        clear hK K
        refine wpW_branch [9] (by kernel_rfl) (by simp) ?_
        intro w4 hg4 hS4
        replace z := Blk.gr z hg4
        replace hQ := hQ.below hg4 (Nat.le_refl _)
        replace hBb := Below.trans hBb (Below.mono hg4 hbs)
        replace hbs := Nat.le_trans hbs (Below.size hg4)
        obtain ⟨k0, k1, k2, k3, k4, k5, k6, k7, k8, k9, k10, k11, k12, k13, k14, k15, k16, kf⟩ := blk17 hQ.blk
        have lb := hQ.blk.lt
        clear k0 k1 k2 k3 k4 k5 k6 k7 k8 k9 k10 k11 k12 k13 k15 k16
        refine each_cons ?_ (each_nil)
        refine wpOp_go (by rfl) (Eq.refl _) (by go_simp; done) ?_
        intro K hK
        go_simp
        try simp only [Act.put]
        refine hK _ _ z ?_
        clear hK K k14 lb kf
        refine wpW_branch [10] (by kernel_rfl) (by simp) ?_
        intro w5 hg5 hS5
        replace z := Blk.gr z hg5
        replace hQ := hQ.below hg5 (Nat.le_refl _)
        replace hBb := Below.trans hBb (Below.mono hg5 hbs)
        replace hbs := Nat.le_trans hbs (Below.size hg5)
        obtain ⟨k0, k1, k2, k3, k4, k5, k6, k7, k8, k9, k10, k11, k12, k13, k14, k15, k16, kf⟩ := blk17 hQ.blk
        have lb := hQ.blk.lt
        clear k0 k1 k2 k3 k4 k5 k6 k7 k8 k9 k10 k11 k12 k13 k15 k16
        refine each_cons ?_ (each_nil)
        refine wpOp_go (by rfl) (Eq.refl _) (by go_simp; done) ?_
        intro K hK
        go_simp
        try simp only [Act.put]
        refine hK _ _ z ?_
        clear hK K k14 lb kf
        refine wpW_branch [11] (by kernel_rfl) (by simp) ?_
        intro w6 hg6 hS6
        replace z := Blk.gr z hg6
        replace hQ := hQ.below hg6 (Nat.le_refl _)
        replace hBb := Below.trans hBb (Below.mono hg6 hbs)
        replace hbs := Nat.le_trans hbs (Below.size hg6)
        obtain ⟨k0, k1, k2, k3, k4, k5, k6, k7, k8, k9, k10, k11, k12, k13, k14, k15, k16, kf⟩ := blk17 hQ.blk
        have lb := hQ.blk.lt
        clear k0 k1 k2 k3 k4 k5 k6 k7 k8 k9 k10 k11 k12 k13 k15 k16
        refine each_cons ?_ (each_nil)
        refine wpOp_go (by rfl) (Eq.refl _) (by go_simp; done) ?_
        intro K hK
        go_simp
        try simp only [Act.put]
        refine hK _ _ z ?_
        clear hK K k14 lb kf
        refine wpW_branch [12] (by kernel_rfl) (by simp) ?_
        intro w7 hg7 hS7
        replace z := Blk.gr z hg7
        replace hQ := hQ.below hg7 (Nat.le_refl _)
        replace hBb := Below.trans hBb (Below.mono hg7 hbs)
        replace hbs := Nat.le_trans hbs (Below.size hg7)
        obtain ⟨k0, k1, k2, k3, k4, k5, k6, k7, k8, k9, k10, k11, k12, k13, k14, k15, k16, kf⟩ := blk17 hQ.blk
        have lb := hQ.blk.lt
        clear k0 k1 k2 k3 k4 k5 k6 k7 k8 k9 k10 k11 k12 k13 k15 k16
        refine each_cons ?_ (each_nil)
        refine wpOp_go (by rfl) (Eq.refl _) (by go_simp; done) ?_
        intro K hK
        go_simp
        try simp only [Act.put]
        have hne : gn ≠ bx := Blk.ne_ z hQ.blk (by decide)
        have hF := hQ.store (by simp) hle hlo HLIM.out
        replace hBb := hBb.setCell (p := ⟨bx, 14, none⟩) hlo (.slice A9 (st.sc.length + 1) c9)
        replace z := z.far (p := ⟨bx, 14, none⟩) hne (.slice A9 (st.sc.length + 1) c9)
        refine hK _ _ z ?_
        clear hK K k14 lb kf hQ
        refine wpW_end (by kernel_rfl) ?_
        intro we hg hS
        unfold NQ
        dsimp only
        have hF2 := hF.below hg (Nat.le_refl _)
        have hBe := (hB6.mono hbw).trans (hBb.trans (hg.mono (by have := hF.blk.lt; omega)))
        go_wp2
        go_ret
        exact ⟨⟨by rw [HE.out]; rfl, fun e => absurd HE.out e, fun _ => ⟨_, by rw [HST.out]; exact hF2⟩⟩, hBe⟩
    · replace HE := Lib.hid (HE.out.trans (if_pos rfl))
      go_wp2_with fail
      refine HCB.out.mono ?_
      rintro e w1 ⟨rfl, rfl⟩
      go_wp2
      go_ret
      exact ⟨⟨by rw [HE.out]; rfl, fun _ => HX6.out, fun e => by rw [HE.out] at e; cases e⟩, hB6.mono hbw⟩
  · replace HE := Lib.hid (HE.out.trans (if_pos ha))
    have ha1 : (ae != 0) = true := by simpa using ha
    have HA := Lib.hid ha; clear ha HV
    go_wp2
    go_ret
    exact ⟨⟨by rw [HE.out]; rfl, fun _ => HX6.out, fun e => absurd (HE.out.symm.trans e) HA.out⟩, hB6.mono hbw⟩
end Go.Proofs.YtmdbpkomanhpoaaGreatDoor
