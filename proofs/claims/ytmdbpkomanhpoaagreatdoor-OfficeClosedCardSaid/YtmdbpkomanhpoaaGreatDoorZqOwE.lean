/- A mark mended: the walk (inspection.mend). -/
import Derived.Test.YtmdbpkomanhpoaaGreatDoorZqOwD
namespace Go.Proofs.YtmdbpkomanhpoaaGreatDoor
open Go.RowKit Go.Lib

def FindP (st : In) (nm : ByteArray) (a : Ia) (P : Option Addr) : Prop := (mkIx st nm = none ∧ P = none) ∨ ∃ k g, ∃ _ : k < st.ms.length, mkIx st nm = some k ∧ a.mA = some ⟨g, 0, none⟩ ∧ P = some ⟨g, k * 13, none⟩
theorem FindR.to {st : In} {nm : ByteArray} {a : Ia} {e : Ending} (h : FindR st.ms nm a.mA e) : ∃ P, e = .returned (.tuple #[.pointer P, .bool (mkIx st nm).isSome]) ∧ FindP st nm a P := by
  rcases h with ⟨h, rfl⟩ | ⟨k, g, hk, h, _, hA, rfl⟩
  · have h1 : mkIx st nm = none := idxV_no h
    exact ⟨none, by rw [h1]; rfl, .inl ⟨h1, rfl⟩⟩
  · have h1 : mkIx st nm = some k := idxV_some h
    exact ⟨some ⟨g, k * 13, none⟩, by rw [h1]; rfl, .inr ⟨k, g, hk, h1, hA, rfl⟩⟩
/-- A mark mended. -/
def mendedM (x : Mk) : Mk := ⟨x.nm, x.bb, x.po, x.q, 2, x.row, x.dec, x.sec⟩
/-- The error of a mending, and the state behind it. -/
def mendE (st : In) (nm : ByteArray) : Int := match mkIx st nm with
  | none => 6
  | some k => match st.ms[k]? with
    | none => 6
    | some x => if x.sta = 1 then (if x.dec = 0 then 20 else 0) else 20
def mendS (s : Se) (st : In) (nm : ByteArray) : In := match mkIx st nm with
  | none => st
  | some k => match st.ms[k]? with
    | none => st
    | some x => { st with ms := st.ms.set k (mendedM x), sc := voidL (mendP s.tk x.po) st.sc }
theorem Isp.msSta {s : Se} {m : Me} {B base bx g k : Nat} {a : Ia} {st : In} {w : World} (h : Isp s m B base bx a st w) (hA : a.mA = some ⟨g, 0, none⟩) (hk : k < st.ms.length) :
    Isp s m B base bx a { st with ms := st.ms.set k (mendedM st.ms[k]) } (w.setCell ⟨g, k * 13 + 9, none⟩ (.int .i64 2)) ∧ w.grownBy (w.setCell ⟨g, k * 13 + 9, none⟩ (.int .i64 2)) (Value.slice a.mA st.ms.length a.mc).ownBlock := by
  have he : (Value.slice a.mA st.ms.length a.mc).ownBlock = some g := by rw [hA]; rfl
  have hg : w.grownBy (w.setCell ⟨g, k * 13 + 9, none⟩ (.int .i64 2)) (some g) := only_setCell (World.grownBy.refl w (some g)) (.inl rfl) _
  have hms := h.ms
  rw [hA] at hms
  have h0 := own_put hms (j := k * 13 + 9) (by omega) (.int .i64 2)
  rw [rowsC_set mkF_len st.ms k hk 9 (by omega) (.int .i64 2) (mendedM st.ms[k]) rfl, ← hA] at h0
  exact ⟨h.msPut hA hg (by simp) h0, by rw [he]; exact hg⟩
set_option maxRecDepth 100000 in
set_option maxHeartbeats 4000000 in
theorem mend_any (s : Se) (m : Me) (B base bx : Nat) (a : Ia) (st : In) (bb nm : ByteArray) (A : Option Addr) (c C : Nat) (w : World) (h : Isp s m B base bx a st w) (hw : WsOk [nm] A c C w) (htk : TkFine s.tk) :
    Calls Tryz.prog 69 #[.pointer (some ⟨bx, 0, none⟩), .string bb, .slice A 1 c] w fun e w' => StepR s m B base bx a st (mendE st nm) (mendS s st nm) e w' ∧ Below base w w' := by
  have HI := Lib.hid h
  have hbw : base ≤ w.heap.size := Nat.le_trans h.lo (Nat.le_of_lt h.blk.lt)
  obtain ⟨gw, ow, hA, hgw, x0⟩ := strRow_at hw.row (k := 0) (by simp)
  subst hA
  have hgw2 : gw < w.heap.size := Nat.lt_of_lt_of_le hgw hw.base
  clear h hw hgw
  simp only [List.getElem_cons_zero, Nat.add_zero] at x0
  have HE : Hid (mendE st nm = match mkIx st nm with
    | none => 6
    | some k => match st.ms[k]? with
      | none => 6
      | some x => if x.sta = 1 then (if x.dec = 0 then 20 else 0) else 20) := Lib.hid rfl
  have HST : Hid (mendS s st nm = match mkIx st nm with
    | none => st
    | some k => match st.ms[k]? with
      | none => st
      | some x => { st with ms := st.ms.set k (mendedM x), sc := voidL (mendP s.tk x.po) st.sc }) := Lib.hid rfl
  generalize mendE st nm = E at *
  generalize mendS s st nm = st' at *
  have hB0 : Below w.heap.size w (w.alloc (.cells #[.pointer (some ⟨bx, 0, none⟩)] 70)) := (Below.refl _ _).alloc (Nat.le_refl _) _
  have b3 := Blk.new w 70 #[.pointer (some ⟨bx, 0, none⟩)]
  have HI0 := Lib.hid (HI.out.below hB0 (Nat.le_refl _))
  have x1 := (hB0.cell (p := ⟨gw, ow, none⟩) hgw2).trans x0
  have c3 := b3.cell 0
  have l3 := b3.lt
  have lw := Nat.lt_of_lt_of_le hgw2 hB0.size
  clear x0
  have hg3 : w.heap.size ≤ w.heap.size := Nat.le_refl _
  generalize hW0 : w.alloc (.cells #[.pointer (some ⟨bx, 0, none⟩)] 70) = W0 at *
  go_enter Tryz.func69, Tryz.ntmps69
  go_upto_region 1 with fail
  clear hW0
  generalize hgg : w.heap.size = g3 at b3 c3 l3 hg3 ⊢
  clear hgg
  have HF : Hid (∀ W, Below W0.heap.size W0 W → Calls Tryz.prog 99 #[.pointer (some ⟨bx, 0, none⟩), .string nm] W fun e w' => (∃ P, e = .returned (.tuple #[.pointer P, .bool (mkIx st nm).isSome]) ∧ FindP st nm a P) ∧ Below W.heap.size W w') := Lib.hid fun W hW =>
    (find_any s m B base bx a st nm W (HI0.out.below hW (Nat.le_refl _))).mono fun e w' ⟨h1, h2⟩ => ⟨h1.to, h2⟩
  obtain ⟨kn, hkn⟩ : ∃ kn, (mkIx st nm).isSome = kn := ⟨_, rfl⟩
  have HKN := Lib.hid hkn
  rw [hkn] at HF
  clear hkn
  refine wp_region_w (Gr _) (by kernel_rfl) (Below.refl _ _).drew ?_
  refine wpW_det (t' := ?ct0R18) 0 (by rfl) (by kernel_rfl) (NQ_free _) (by kernel_rfl) ?cw0R18 ?ch0R18 ?ca0R18 (Eq.refl _) ?cH0R18
  case cw0R18 => (go_simp; done)
  case ch0R18 =>
    intro ds w' hS K hK
    have hc := (bcell hS).1
    have hf := (bcell hS).2
    have hz := hS.size
    try simp at hz
    go_simp
    try go_bits
    first
      | exact hK _ hS (Gr.refl _)
      | exact hK _ (by repeat (first | (with_reducible exact Below.refl _ _) | (with_reducible assumption) | ((with_reducible refine Below.setCell ?_ ?_ _); rotate_left; · (first | exact Nat.le_refl _ | (simp; done) | (simp; omega) | omega)) | ((with_reducible refine Below.alloc ?_ ?_ _); rotate_left; · (first | exact Nat.le_refl _ | (simp; done) | (simp; omega) | omega)) | (with_reducible apply Below.drew) | (with_reducible apply below_drewN') | (refine Below.trans ?_ (Below.mono (by assumption) (by first | exact Nat.le_refl _ | (simp; done) | (simp; omega) | omega))) | exact Below.refl _ _ | assumption)) (by repeat (first | (with_reducible exact Below.refl _ _) | (with_reducible assumption) | ((with_reducible refine Below.setCell ?_ ?_ _); rotate_left; · (first | exact Nat.le_refl _ | (simp; done) | (simp; omega) | omega)) | ((with_reducible refine Below.alloc ?_ ?_ _); rotate_left; · (first | exact Nat.le_refl _ | (simp; done) | (simp; omega) | omega)) | (with_reducible apply Below.drew) | (with_reducible apply below_drewN') | (refine Below.trans ?_ (Below.mono (by assumption) (by first | exact Nat.le_refl _ | (simp; done) | (simp; omega) | omega))) | exact Below.refl _ _ | assumption))
  case ca0R18 => (first | (simp [Act.put]; done) | (simp [Act.put, *]; done))
  try dsimp only
  refine wpW_det (t' := ?ct1R18) 1 (by rfl) (by kernel_rfl) (NQ_free _) (by kernel_rfl) ?cw1R18 ?ch1R18 ?ca1R18 (Eq.refl _) ?cH1R18
  case cw1R18 => (go_simp; done)
  case ch1R18 =>
    intro ds w' hS K hK
    have hc := (bcell hS).1
    have hf := (bcell hS).2
    have hz := hS.size
    try simp at hz
    go_simp
    try go_bits
    first
      | exact hK _ hS (Gr.refl _)
      | exact hK _ (by repeat (first | (with_reducible exact Below.refl _ _) | (with_reducible assumption) | ((with_reducible refine Below.setCell ?_ ?_ _); rotate_left; · (first | exact Nat.le_refl _ | (simp; done) | (simp; omega) | omega)) | ((with_reducible refine Below.alloc ?_ ?_ _); rotate_left; · (first | exact Nat.le_refl _ | (simp; done) | (simp; omega) | omega)) | (with_reducible apply Below.drew) | (with_reducible apply below_drewN') | (refine Below.trans ?_ (Below.mono (by assumption) (by first | exact Nat.le_refl _ | (simp; done) | (simp; omega) | omega))) | exact Below.refl _ _ | assumption)) (by repeat (first | (with_reducible exact Below.refl _ _) | (with_reducible assumption) | ((with_reducible refine Below.setCell ?_ ?_ _); rotate_left; · (first | exact Nat.le_refl _ | (simp; done) | (simp; omega) | omega)) | ((with_reducible refine Below.alloc ?_ ?_ _); rotate_left; · (first | exact Nat.le_refl _ | (simp; done) | (simp; omega) | omega)) | (with_reducible apply Below.drew) | (with_reducible apply below_drewN') | (refine Below.trans ?_ (Below.mono (by assumption) (by first | exact Nat.le_refl _ | (simp; done) | (simp; omega) | omega))) | exact Below.refl _ _ | assumption))
  case ca1R18 => (first | (simp [Act.put]; done) | (simp [Act.put, *]; done))
  try dsimp only
  refine wpW_det (t' := ?ct2R18) 2 (by rfl) (by kernel_rfl) (NQ_free _) (by kernel_rfl) ?cw2R18 ?ch2R18 ?ca2R18 (Eq.refl _) ?cH2R18
  case cw2R18 => (go_simp; done)
  case ch2R18 =>
    intro ds w' hS K hK
    have hc := (bcell hS).1
    have hf := (bcell hS).2
    have hz := hS.size
    try simp at hz
    go_simp
    try go_bits
    first
      | exact hK _ hS (Gr.refl _)
      | exact hK _ (by repeat (first | (with_reducible exact Below.refl _ _) | (with_reducible assumption) | ((with_reducible refine Below.setCell ?_ ?_ _); rotate_left; · (first | exact Nat.le_refl _ | (simp; done) | (simp; omega) | omega)) | ((with_reducible refine Below.alloc ?_ ?_ _); rotate_left; · (first | exact Nat.le_refl _ | (simp; done) | (simp; omega) | omega)) | (with_reducible apply Below.drew) | (with_reducible apply below_drewN') | (refine Below.trans ?_ (Below.mono (by assumption) (by first | exact Nat.le_refl _ | (simp; done) | (simp; omega) | omega))) | exact Below.refl _ _ | assumption)) (by repeat (first | (with_reducible exact Below.refl _ _) | (with_reducible assumption) | ((with_reducible refine Below.setCell ?_ ?_ _); rotate_left; · (first | exact Nat.le_refl _ | (simp; done) | (simp; omega) | omega)) | ((with_reducible refine Below.alloc ?_ ?_ _); rotate_left; · (first | exact Nat.le_refl _ | (simp; done) | (simp; omega) | omega)) | (with_reducible apply Below.drew) | (with_reducible apply below_drewN') | (refine Below.trans ?_ (Below.mono (by assumption) (by first | exact Nat.le_refl _ | (simp; done) | (simp; omega) | omega))) | exact Below.refl _ _ | assumption))
  case ca2R18 => (first | (simp [Act.put]; done) | (simp [Act.put, *]; done))
  try dsimp only
  refine wpW_det (t' := ?ct3R18) 3 (by rfl) (by kernel_rfl) (NQ_free _) (by kernel_rfl) ?cw3R18 ?ch3R18 ?ca3R18 (Eq.refl _) ?cH3R18
  case cw3R18 => (go_simp; done)
  case ch3R18 =>
    intro ds w' hS K hK
    have hc := (bcell hS).1
    have hf := (bcell hS).2
    have hz := hS.size
    try simp at hz
    go_simp
    try go_bits
    first
      | exact hK _ hS (Gr.refl _)
      | exact hK _ (by repeat (first | (with_reducible exact Below.refl _ _) | (with_reducible assumption) | ((with_reducible refine Below.setCell ?_ ?_ _); rotate_left; · (first | exact Nat.le_refl _ | (simp; done) | (simp; omega) | omega)) | ((with_reducible refine Below.alloc ?_ ?_ _); rotate_left; · (first | exact Nat.le_refl _ | (simp; done) | (simp; omega) | omega)) | (with_reducible apply Below.drew) | (with_reducible apply below_drewN') | (refine Below.trans ?_ (Below.mono (by assumption) (by first | exact Nat.le_refl _ | (simp; done) | (simp; omega) | omega))) | exact Below.refl _ _ | assumption)) (by repeat (first | (with_reducible exact Below.refl _ _) | (with_reducible assumption) | ((with_reducible refine Below.setCell ?_ ?_ _); rotate_left; · (first | exact Nat.le_refl _ | (simp; done) | (simp; omega) | omega)) | ((with_reducible refine Below.alloc ?_ ?_ _); rotate_left; · (first | exact Nat.le_refl _ | (simp; done) | (simp; omega) | omega)) | (with_reducible apply Below.drew) | (with_reducible apply below_drewN') | (refine Below.trans ?_ (Below.mono (by assumption) (by first | exact Nat.le_refl _ | (simp; done) | (simp; omega) | omega))) | exact Below.refl _ _ | assumption))
  case ca3R18 => (first | (simp [Act.put]; done) | (simp [Act.put, *]; done))
  try dsimp only
  clear x1 c3 l3 lw
  refine wpW_branch [4, 8] (by kernel_rfl) (by simp) ?_
  intro w1 hg1 hS1
  refine each_cons ?_ (each_cons ?_ (each_nil))
  · refine wpOp_go (by rfl) (Eq.refl _) (by go_simp; done) ?_
    intro K hK
    go_simp
    try simp only [Act.put]
    try clear z0 zf lz
    refine (HF.out _ hS1).mono ?_
    rintro e wq ⟨⟨P, rfl, hP⟩, hBq⟩
    have HP := Lib.hid hP
    try replace b7 := Blk.gr b7 hBq
    refine hK _ _ (Below.trans hS1 (hBq.mono (Below.size hS1))) ?_
    clear hK K hBq hP
    refine wpW_det (t' := ?ct5R19) 5 (by rfl) (by kernel_rfl) (NQ_free _) (by kernel_rfl) ?cw5R19 ?ch5R19 ?ca5R19 (Eq.refl _) ?cH5R19
    case cw5R19 => (go_simp; done)
    case ch5R19 =>
      intro ds w' hS K hK
      have hc := (bcell hS).1
      have hf := (bcell hS).2
      have hz := hS.size
      try simp at hz
      go_simp
      try go_bits
      first
        | exact hK _ hS (Gr.refl _)
        | exact hK _ (by repeat (first | (with_reducible exact Below.refl _ _) | (with_reducible assumption) | ((with_reducible refine Below.setCell ?_ ?_ _); rotate_left; · (first | exact Nat.le_refl _ | (simp; done) | (simp; omega) | omega)) | ((with_reducible refine Below.alloc ?_ ?_ _); rotate_left; · (first | exact Nat.le_refl _ | (simp; done) | (simp; omega) | omega)) | (with_reducible apply Below.drew) | (with_reducible apply below_drewN') | (refine Below.trans ?_ (Below.mono (by assumption) (by first | exact Nat.le_refl _ | (simp; done) | (simp; omega) | omega))) | exact Below.refl _ _ | assumption)) (by repeat (first | (with_reducible exact Below.refl _ _) | (with_reducible assumption) | ((with_reducible refine Below.setCell ?_ ?_ _); rotate_left; · (first | exact Nat.le_refl _ | (simp; done) | (simp; omega) | omega)) | ((with_reducible refine Below.alloc ?_ ?_ _); rotate_left; · (first | exact Nat.le_refl _ | (simp; done) | (simp; omega) | omega)) | (with_reducible apply Below.drew) | (with_reducible apply below_drewN') | (refine Below.trans ?_ (Below.mono (by assumption) (by first | exact Nat.le_refl _ | (simp; done) | (simp; omega) | omega))) | exact Below.refl _ _ | assumption))
    case ca5R19 => (first | (simp [Act.put]; done) | (simp [Act.put, *]; done))
    try dsimp only
    refine wpW_det (t' := ?ct6R19) 6 (by rfl) (by kernel_rfl) (NQ_free _) (by kernel_rfl) ?cw6R19 ?ch6R19 ?ca6R19 (Eq.refl _) ?cH6R19
    case cw6R19 => (go_simp; done)
    case ch6R19 =>
      intro ds w' hS K hK
      have hc := (bcell hS).1
      have hf := (bcell hS).2
      have hz := hS.size
      try simp at hz
      go_simp
      try go_bits
      first
        | exact hK _ hS (Gr.refl _)
        | exact hK _ (by repeat (first | (with_reducible exact Below.refl _ _) | (with_reducible assumption) | ((with_reducible refine Below.setCell ?_ ?_ _); rotate_left; · (first | exact Nat.le_refl _ | (simp; done) | (simp; omega) | omega)) | ((with_reducible refine Below.alloc ?_ ?_ _); rotate_left; · (first | exact Nat.le_refl _ | (simp; done) | (simp; omega) | omega)) | (with_reducible apply Below.drew) | (with_reducible apply below_drewN') | (refine Below.trans ?_ (Below.mono (by assumption) (by first | exact Nat.le_refl _ | (simp; done) | (simp; omega) | omega))) | exact Below.refl _ _ | assumption)) (by repeat (first | (with_reducible exact Below.refl _ _) | (with_reducible assumption) | ((with_reducible refine Below.setCell ?_ ?_ _); rotate_left; · (first | exact Nat.le_refl _ | (simp; done) | (simp; omega) | omega)) | ((with_reducible refine Below.alloc ?_ ?_ _); rotate_left; · (first | exact Nat.le_refl _ | (simp; done) | (simp; omega) | omega)) | (with_reducible apply Below.drew) | (with_reducible apply below_drewN') | (refine Below.trans ?_ (Below.mono (by assumption) (by first | exact Nat.le_refl _ | (simp; done) | (simp; omega) | omega))) | exact Below.refl _ _ | assumption))
    case ca6R19 => (first | (simp [Act.put]; done) | (simp [Act.put, *]; done))
    try dsimp only
    refine wpW_det (t' := ?ct7R19) 7 (by rfl) (by kernel_rfl) (NQ_free _) (by kernel_rfl) ?cw7R19 ?ch7R19 ?ca7R19 (Eq.refl _) ?cH7R19
    case cw7R19 => (go_simp; done)
    case ch7R19 =>
      intro ds w' hS K hK
      have hc := (bcell hS).1
      have hf := (bcell hS).2
      have hz := hS.size
      try simp at hz
      go_simp
      try go_bits
      first
        | exact hK _ hS (Gr.refl _)
        | exact hK _ (by repeat (first | (with_reducible exact Below.refl _ _) | (with_reducible assumption) | ((with_reducible refine Below.setCell ?_ ?_ _); rotate_left; · (first | exact Nat.le_refl _ | (simp; done) | (simp; omega) | omega)) | ((with_reducible refine Below.alloc ?_ ?_ _); rotate_left; · (first | exact Nat.le_refl _ | (simp; done) | (simp; omega) | omega)) | (with_reducible apply Below.drew) | (with_reducible apply below_drewN') | (refine Below.trans ?_ (Below.mono (by assumption) (by first | exact Nat.le_refl _ | (simp; done) | (simp; omega) | omega))) | exact Below.refl _ _ | assumption)) (by repeat (first | (with_reducible exact Below.refl _ _) | (with_reducible assumption) | ((with_reducible refine Below.setCell ?_ ?_ _); rotate_left; · (first | exact Nat.le_refl _ | (simp; done) | (simp; omega) | omega)) | ((with_reducible refine Below.alloc ?_ ?_ _); rotate_left; · (first | exact Nat.le_refl _ | (simp; done) | (simp; omega) | omega)) | (with_reducible apply Below.drew) | (with_reducible apply below_drewN') | (refine Below.trans ?_ (Below.mono (by assumption) (by first | exact Nat.le_refl _ | (simp; done) | (simp; omega) | omega))) | exact Below.refl _ _ | assumption))
    case ca7R19 => (first | (simp [Act.put]; done) | (simp [Act.put, *]; done))
    try dsimp only
    refine wpW_branch [8] (by kernel_rfl) (by simp) ?_
    intro w2 hg2 hS2
    refine each_cons ?_ (each_nil)
    refine wpOp_go (by rfl) (Eq.refl _) (by go_simp; done) ?_
    intro K hK
    go_simp
    try simp only [Act.put]
    have b7 := Blk.new w2 177 #[.pointer none]
    have hg7 : W0.heap.size ≤ w2.heap.size := Below.size hS2
    refine hK _ _ (Below.alloc hS2 (Below.size hS2) _) ?_
    generalize w2.heap.size = g7 at *
    clear hK K
    refine wpW_branch [9] (by kernel_rfl) (by simp) ?_
    intro w3 hg3 hS3
    replace b7 := Blk.gr b7 hg3
    have z0 := b7.cell 0
    have zf := b7.frozen
    have lz := b7.lt
    refine each_cons ?_ (each_nil)
    refine wpOp_go (by rfl) (Eq.refl _) (by go_simp; done) ?_
    intro K hK
    go_simp
    try simp only [Act.put]
    replace b7 := b7.set_ 0 (.pointer P)
    refine hK _ _ (Below.setCell hS3 hg7 _) ?_
    clear hK K z0 zf lz
    refine wpW_det (t' := ?ct10R20) 10 (by rfl) (by kernel_rfl) (NQ_free _) (by kernel_rfl) ?cw10R20 ?ch10R20 ?ca10R20 (Eq.refl _) ?cH10R20
    case cw10R20 => (go_simp; done)
    case ch10R20 =>
      intro ds w' hS K hK
      have hc := (bcell hS).1
      have hf := (bcell hS).2
      have hz := hS.size
      try simp at hz
      go_simp
      try go_bits
      first
        | exact hK _ hS (Gr.refl _)
        | exact hK _ (by repeat (first | (with_reducible exact Below.refl _ _) | (with_reducible assumption) | ((with_reducible refine Below.setCell ?_ ?_ _); rotate_left; · (first | exact Nat.le_refl _ | (simp; done) | (simp; omega) | omega)) | ((with_reducible refine Below.alloc ?_ ?_ _); rotate_left; · (first | exact Nat.le_refl _ | (simp; done) | (simp; omega) | omega)) | (with_reducible apply Below.drew) | (with_reducible apply below_drewN') | (refine Below.trans ?_ (Below.mono (by assumption) (by first | exact Nat.le_refl _ | (simp; done) | (simp; omega) | omega))) | exact Below.refl _ _ | assumption)) (by repeat (first | (with_reducible exact Below.refl _ _) | (with_reducible assumption) | ((with_reducible refine Below.setCell ?_ ?_ _); rotate_left; · (first | exact Nat.le_refl _ | (simp; done) | (simp; omega) | omega)) | ((with_reducible refine Below.alloc ?_ ?_ _); rotate_left; · (first | exact Nat.le_refl _ | (simp; done) | (simp; omega) | omega)) | (with_reducible apply Below.drew) | (with_reducible apply below_drewN') | (refine Below.trans ?_ (Below.mono (by assumption) (by first | exact Nat.le_refl _ | (simp; done) | (simp; omega) | omega))) | exact Below.refl _ _ | assumption))
    case ca10R20 => (first | (simp [Act.put]; done) | (simp [Act.put, *]; done))
    try dsimp only
    refine wpW_end (by kernel_rfl) ?_
    intro W2 hg hS
    unfold NQ
    dsimp only
    replace b7 : Blk W2 g7 177 #[.pointer P] := Blk.gr b7 hg
    have b32 := b3.below hS b3.lt
    have HI2 := Lib.hid (HI0.out.below hS (Nat.le_refl _))
    have hB2 : Below w.heap.size w W2 := hB0.trans (hS.mono hB0.size)
    clear hg hS HF
    rcases HP.out with ⟨h0, rfl⟩ | ⟨k, g, hk, h1, hmA, rfl⟩
    · rw [h0] at HE HKN
      obtain rfl : kn = false := HKN.out.symm
      clear h0
      go_wp2
      go_ret
      exact ⟨⟨by rw [HE.out]; rfl, fun _ => HI2.out, fun e => by rw [HE.out] at e; cases e⟩, hB2.mono hbw⟩
    rw [h1] at HE HST HKN
    obtain rfl : kn = true := HKN.out.symm
    have hk1 : st.ms[k]? = some st.ms[k] := List.getElem?_eq_getElem hk
    simp only [hk1] at HE HST
    clear h1 hk1
    obtain ⟨g', o', hA', hg', y0, y1, y2, y3, y4, y5, y6, y7, y8, y9, y10, y11, y12⟩ := (own_row_ HI2.out.ms).at13 mkF_len hk rfl
    rw [hmA] at hA'
    injection hA' with hA'
    injection hA' with hA1 hA2 _
    subst hA1
    subst hA2
    simp only [Nat.zero_add] at y0 y1 y2 y3 y4 y5 y6 y7 y8 y9 y10 y11 y12
    have HMA := Lib.hid hmA
    have hput := HI2.out.msSta hmA hk
    have HPUT := Lib.hid hput; clear hput
    have HPO : Hid (∀ h' : k < (st.ms.set k (mendedM st.ms[k])).length, (st.ms.set k (mendedM st.ms[k]))[k].po = st.ms[k].po) := Lib.hid fun h' => by rw [List.getElem_set_self]; rfl
    have hyf : W2.frozen? ⟨g, k * 13 + 9, none⟩ = false := by
      have hms := HI2.out.ms
      rw [HMA.out] at hms
      obtain ⟨_, ⟨hv, _⟩ | ⟨g2, cap', cur, hv, hb, hh, _⟩⟩ := hms
      · cases hv
      · cases hv
        exact (show Blk W2 g _ cur from hh).frozen _
    have hgB : base ≤ g := by
      have hms := HI2.out.ms
      rw [hmA] at hms
      exact (hms.lt _ rfl).1
    have HMS := Lib.hid HI2.out.ms
    clear hmA y0 y1 y2 y3 y4 y5 y6 y7 y8 y10 y12
    obtain ⟨x, hx⟩ : ∃ x, st.ms[k] = x := ⟨_, rfl⟩
    rw [hx] at y9 y11 HE HST HPUT HPO
    have HKL : Hid (k < st.ms.length) := Lib.hid hk
    clear hx hk
    obtain ⟨xn, xb, xp, xq, xs, xr, xd, xe⟩ := x
    dsimp only at y9 y11 HE HST HPO
    have d7 := b7.cell 0
    have l7 := b7.lt
    have ly := World.block_lt_of_cell? _ _ y9
    simp only at ly
    by_cases h1 : xs = 1
    · subst h1
      replace HE := Lib.hid (HE.out.trans (if_pos rfl))
      by_cases h0 : xd = 0
      · subst h0
        replace HE := Lib.hid (HE.out.trans (if_pos rfl))
        go_wp2
        go_ret
        exact ⟨⟨by rw [HE.out]; rfl, fun _ => HI2.out, fun e => by rw [HE.out] at e; cases e⟩, hB2.mono hbw⟩
      · replace HE := Lib.hid (HE.out.trans (if_neg h0))
        have h2 : (xd == 0) = false := by simpa using h0
        clear h0
        go_upto_region 6 with fail
        have b7s := b7.grown HPUT.out.2 (own_ne_blk HMS.out b7 (by decide)).symm
        have b3s := b32.grown HPUT.out.2 (own_ne_blk HMS.out b32 (by decide)).symm
        have d3 := b3s.cell 0
        have l3 := b3s.lt
        have HVM := Lib.hid (voidMd_any s m B base bx a { st with ms := st.ms.set k (mendedM ⟨xn, xb, xp, xq, 1, xr, xd, xe⟩) } g7 g3 g k xp _ HPUT.out.1 ⟨b7s, b3s⟩ HMA.out (by simpa using HKL.out) (HPO.out _) htk)
        have HBS := Lib.hid ((hB2.mono hbw).setCell (p := ⟨g, k * 13 + 9, none⟩) hgB (.int .i64 2))
        have d7s := b7s.cell 0
        generalize hW3 : W2.setCell ⟨g, k * 13 + 9, none⟩ (.int .i64 2) = W3 at *
        go_upto_region 7 with fail
        clear hW3 y9 y11 hyf d7 l7 ly b7 b32
        go_wp2_with fail
        refine HVM.out.mono ?_
        rintro e W4 ⟨rfl, hI4, hB4⟩
        have HI4 := Lib.hid hI4
        have HB4 := Lib.hid (HBS.out.trans hB4)
        clear hI4 hB4
        go_wp2
        go_ret
        exact ⟨⟨by rw [HE.out]; rfl, fun e => absurd HE.out e, fun _ => ⟨_, by rw [HST.out]; exact HI4.out⟩⟩, HB4.out⟩
    · replace HE := Lib.hid (HE.out.trans (if_neg h1))
      have h2 : (xs != 1) = true := by simpa using h1
      have H1 := Lib.hid h1; clear h1
      go_wp2
      go_ret
      exact ⟨⟨by rw [HE.out]; rfl, fun _ => HI2.out, fun e => by rw [HE.out] at e; cases e⟩, hB2.mono hbw⟩
  · refine wpOp_go (by rfl) (Eq.refl _) (by go_simp; done) ?_
    intro K hK
    go_simp
    try simp only [Act.put]
    have b7 := Blk.new w1 177 #[.pointer none]
    have hg7 : W0.heap.size ≤ w1.heap.size := Below.size hS1
    refine hK _ _ (Below.alloc hS1 (Below.size hS1) _) ?_
    generalize w1.heap.size = g7 at *
    clear hK K
    refine wpW_branch [4] (by kernel_rfl) (by simp) ?_
    intro w2 hg2 hS2
    replace b7 := Blk.gr b7 hg2
    have z0 := b7.cell 0
    have zf := b7.frozen
    have lz := b7.lt
    refine each_cons ?_ (each_nil)
    refine wpOp_go (by rfl) (Eq.refl _) (by go_simp; done) ?_
    intro K hK
    go_simp
    try simp only [Act.put]
    try clear z0 zf lz
    refine (HF.out _ hS2).mono ?_
    rintro e wq ⟨⟨P, rfl, hP⟩, hBq⟩
    have HP := Lib.hid hP
    try replace b7 := Blk.gr b7 hBq
    refine hK _ _ (Below.trans hS2 (hBq.mono (Below.size hS2))) ?_
    clear hK K hBq hP
    refine wpW_det (t' := ?ct5R21) 5 (by rfl) (by kernel_rfl) (NQ_free _) (by kernel_rfl) ?cw5R21 ?ch5R21 ?ca5R21 (Eq.refl _) ?cH5R21
    case cw5R21 => (go_simp; done)
    case ch5R21 =>
      intro ds w' hS K hK
      have hc := (bcell hS).1
      have hf := (bcell hS).2
      have hz := hS.size
      try simp at hz
      go_simp
      try go_bits
      first
        | exact hK _ hS (Gr.refl _)
        | exact hK _ (by repeat (first | (with_reducible exact Below.refl _ _) | (with_reducible assumption) | ((with_reducible refine Below.setCell ?_ ?_ _); rotate_left; · (first | exact Nat.le_refl _ | (simp; done) | (simp; omega) | omega)) | ((with_reducible refine Below.alloc ?_ ?_ _); rotate_left; · (first | exact Nat.le_refl _ | (simp; done) | (simp; omega) | omega)) | (with_reducible apply Below.drew) | (with_reducible apply below_drewN') | (refine Below.trans ?_ (Below.mono (by assumption) (by first | exact Nat.le_refl _ | (simp; done) | (simp; omega) | omega))) | exact Below.refl _ _ | assumption)) (by repeat (first | (with_reducible exact Below.refl _ _) | (with_reducible assumption) | ((with_reducible refine Below.setCell ?_ ?_ _); rotate_left; · (first | exact Nat.le_refl _ | (simp; done) | (simp; omega) | omega)) | ((with_reducible refine Below.alloc ?_ ?_ _); rotate_left; · (first | exact Nat.le_refl _ | (simp; done) | (simp; omega) | omega)) | (with_reducible apply Below.drew) | (with_reducible apply below_drewN') | (refine Below.trans ?_ (Below.mono (by assumption) (by first | exact Nat.le_refl _ | (simp; done) | (simp; omega) | omega))) | exact Below.refl _ _ | assumption))
    case ca5R21 => (first | (simp [Act.put]; done) | (simp [Act.put, *]; done))
    try dsimp only
    refine wpW_det (t' := ?ct6R21) 6 (by rfl) (by kernel_rfl) (NQ_free _) (by kernel_rfl) ?cw6R21 ?ch6R21 ?ca6R21 (Eq.refl _) ?cH6R21
    case cw6R21 => (go_simp; done)
    case ch6R21 =>
      intro ds w' hS K hK
      have hc := (bcell hS).1
      have hf := (bcell hS).2
      have hz := hS.size
      try simp at hz
      go_simp
      try go_bits
      first
        | exact hK _ hS (Gr.refl _)
        | exact hK _ (by repeat (first | (with_reducible exact Below.refl _ _) | (with_reducible assumption) | ((with_reducible refine Below.setCell ?_ ?_ _); rotate_left; · (first | exact Nat.le_refl _ | (simp; done) | (simp; omega) | omega)) | ((with_reducible refine Below.alloc ?_ ?_ _); rotate_left; · (first | exact Nat.le_refl _ | (simp; done) | (simp; omega) | omega)) | (with_reducible apply Below.drew) | (with_reducible apply below_drewN') | (refine Below.trans ?_ (Below.mono (by assumption) (by first | exact Nat.le_refl _ | (simp; done) | (simp; omega) | omega))) | exact Below.refl _ _ | assumption)) (by repeat (first | (with_reducible exact Below.refl _ _) | (with_reducible assumption) | ((with_reducible refine Below.setCell ?_ ?_ _); rotate_left; · (first | exact Nat.le_refl _ | (simp; done) | (simp; omega) | omega)) | ((with_reducible refine Below.alloc ?_ ?_ _); rotate_left; · (first | exact Nat.le_refl _ | (simp; done) | (simp; omega) | omega)) | (with_reducible apply Below.drew) | (with_reducible apply below_drewN') | (refine Below.trans ?_ (Below.mono (by assumption) (by first | exact Nat.le_refl _ | (simp; done) | (simp; omega) | omega))) | exact Below.refl _ _ | assumption))
    case ca6R21 => (first | (simp [Act.put]; done) | (simp [Act.put, *]; done))
    try dsimp only
    refine wpW_det (t' := ?ct7R21) 7 (by rfl) (by kernel_rfl) (NQ_free _) (by kernel_rfl) ?cw7R21 ?ch7R21 ?ca7R21 (Eq.refl _) ?cH7R21
    case cw7R21 => (go_simp; done)
    case ch7R21 =>
      intro ds w' hS K hK
      have hc := (bcell hS).1
      have hf := (bcell hS).2
      have hz := hS.size
      try simp at hz
      go_simp
      try go_bits
      first
        | exact hK _ hS (Gr.refl _)
        | exact hK _ (by repeat (first | (with_reducible exact Below.refl _ _) | (with_reducible assumption) | ((with_reducible refine Below.setCell ?_ ?_ _); rotate_left; · (first | exact Nat.le_refl _ | (simp; done) | (simp; omega) | omega)) | ((with_reducible refine Below.alloc ?_ ?_ _); rotate_left; · (first | exact Nat.le_refl _ | (simp; done) | (simp; omega) | omega)) | (with_reducible apply Below.drew) | (with_reducible apply below_drewN') | (refine Below.trans ?_ (Below.mono (by assumption) (by first | exact Nat.le_refl _ | (simp; done) | (simp; omega) | omega))) | exact Below.refl _ _ | assumption)) (by repeat (first | (with_reducible exact Below.refl _ _) | (with_reducible assumption) | ((with_reducible refine Below.setCell ?_ ?_ _); rotate_left; · (first | exact Nat.le_refl _ | (simp; done) | (simp; omega) | omega)) | ((with_reducible refine Below.alloc ?_ ?_ _); rotate_left; · (first | exact Nat.le_refl _ | (simp; done) | (simp; omega) | omega)) | (with_reducible apply Below.drew) | (with_reducible apply below_drewN') | (refine Below.trans ?_ (Below.mono (by assumption) (by first | exact Nat.le_refl _ | (simp; done) | (simp; omega) | omega))) | exact Below.refl _ _ | assumption))
    case ca7R21 => (first | (simp [Act.put]; done) | (simp [Act.put, *]; done))
    try dsimp only
    refine wpW_branch [9] (by kernel_rfl) (by simp) ?_
    intro w3 hg3 hS3
    replace b7 := Blk.gr b7 hg3
    have z0 := b7.cell 0
    have zf := b7.frozen
    have lz := b7.lt
    refine each_cons ?_ (each_nil)
    refine wpOp_go (by rfl) (Eq.refl _) (by go_simp; done) ?_
    intro K hK
    go_simp
    try simp only [Act.put]
    replace b7 := b7.set_ 0 (.pointer P)
    refine hK _ _ (Below.setCell hS3 hg7 _) ?_
    clear hK K z0 zf lz
    refine wpW_det (t' := ?ct10R22) 10 (by rfl) (by kernel_rfl) (NQ_free _) (by kernel_rfl) ?cw10R22 ?ch10R22 ?ca10R22 (Eq.refl _) ?cH10R22
    case cw10R22 => (go_simp; done)
    case ch10R22 =>
      intro ds w' hS K hK
      have hc := (bcell hS).1
      have hf := (bcell hS).2
      have hz := hS.size
      try simp at hz
      go_simp
      try go_bits
      first
        | exact hK _ hS (Gr.refl _)
        | exact hK _ (by repeat (first | (with_reducible exact Below.refl _ _) | (with_reducible assumption) | ((with_reducible refine Below.setCell ?_ ?_ _); rotate_left; · (first | exact Nat.le_refl _ | (simp; done) | (simp; omega) | omega)) | ((with_reducible refine Below.alloc ?_ ?_ _); rotate_left; · (first | exact Nat.le_refl _ | (simp; done) | (simp; omega) | omega)) | (with_reducible apply Below.drew) | (with_reducible apply below_drewN') | (refine Below.trans ?_ (Below.mono (by assumption) (by first | exact Nat.le_refl _ | (simp; done) | (simp; omega) | omega))) | exact Below.refl _ _ | assumption)) (by repeat (first | (with_reducible exact Below.refl _ _) | (with_reducible assumption) | ((with_reducible refine Below.setCell ?_ ?_ _); rotate_left; · (first | exact Nat.le_refl _ | (simp; done) | (simp; omega) | omega)) | ((with_reducible refine Below.alloc ?_ ?_ _); rotate_left; · (first | exact Nat.le_refl _ | (simp; done) | (simp; omega) | omega)) | (with_reducible apply Below.drew) | (with_reducible apply below_drewN') | (refine Below.trans ?_ (Below.mono (by assumption) (by first | exact Nat.le_refl _ | (simp; done) | (simp; omega) | omega))) | exact Below.refl _ _ | assumption))
    case ca10R22 => (first | (simp [Act.put]; done) | (simp [Act.put, *]; done))
    try dsimp only
    refine wpW_end (by kernel_rfl) ?_
    intro W2 hg hS
    unfold NQ
    dsimp only
    replace b7 : Blk W2 g7 177 #[.pointer P] := Blk.gr b7 hg
    have b32 := b3.below hS b3.lt
    have HI2 := Lib.hid (HI0.out.below hS (Nat.le_refl _))
    have hB2 : Below w.heap.size w W2 := hB0.trans (hS.mono hB0.size)
    clear hg hS HF
    rcases HP.out with ⟨h0, rfl⟩ | ⟨k, g, hk, h1, hmA, rfl⟩
    · rw [h0] at HE HKN
      obtain rfl : kn = false := HKN.out.symm
      clear h0
      go_wp2
      go_ret
      exact ⟨⟨by rw [HE.out]; rfl, fun _ => HI2.out, fun e => by rw [HE.out] at e; cases e⟩, hB2.mono hbw⟩
    rw [h1] at HE HST HKN
    obtain rfl : kn = true := HKN.out.symm
    have hk1 : st.ms[k]? = some st.ms[k] := List.getElem?_eq_getElem hk
    simp only [hk1] at HE HST
    clear h1 hk1
    obtain ⟨g', o', hA', hg', y0, y1, y2, y3, y4, y5, y6, y7, y8, y9, y10, y11, y12⟩ := (own_row_ HI2.out.ms).at13 mkF_len hk rfl
    rw [hmA] at hA'
    injection hA' with hA'
    injection hA' with hA1 hA2 _
    subst hA1
    subst hA2
    simp only [Nat.zero_add] at y0 y1 y2 y3 y4 y5 y6 y7 y8 y9 y10 y11 y12
    have HMA := Lib.hid hmA
    have hput := HI2.out.msSta hmA hk
    have HPUT := Lib.hid hput; clear hput
    have HPO : Hid (∀ h' : k < (st.ms.set k (mendedM st.ms[k])).length, (st.ms.set k (mendedM st.ms[k]))[k].po = st.ms[k].po) := Lib.hid fun h' => by rw [List.getElem_set_self]; rfl
    have hyf : W2.frozen? ⟨g, k * 13 + 9, none⟩ = false := by
      have hms := HI2.out.ms
      rw [HMA.out] at hms
      obtain ⟨_, ⟨hv, _⟩ | ⟨g2, cap', cur, hv, hb, hh, _⟩⟩ := hms
      · cases hv
      · cases hv
        exact (show Blk W2 g _ cur from hh).frozen _
    have hgB : base ≤ g := by
      have hms := HI2.out.ms
      rw [hmA] at hms
      exact (hms.lt _ rfl).1
    have HMS := Lib.hid HI2.out.ms
    clear hmA y0 y1 y2 y3 y4 y5 y6 y7 y8 y10 y12
    obtain ⟨x, hx⟩ : ∃ x, st.ms[k] = x := ⟨_, rfl⟩
    rw [hx] at y9 y11 HE HST HPUT HPO
    have HKL : Hid (k < st.ms.length) := Lib.hid hk
    clear hx hk
    obtain ⟨xn, xb, xp, xq, xs, xr, xd, xe⟩ := x
    dsimp only at y9 y11 HE HST HPO
    have d7 := b7.cell 0
    have l7 := b7.lt
    have ly := World.block_lt_of_cell? _ _ y9
    simp only at ly
    by_cases h1 : xs = 1
    · subst h1
      replace HE := Lib.hid (HE.out.trans (if_pos rfl))
      by_cases h0 : xd = 0
      · subst h0
        replace HE := Lib.hid (HE.out.trans (if_pos rfl))
        go_wp2
        go_ret
        exact ⟨⟨by rw [HE.out]; rfl, fun _ => HI2.out, fun e => by rw [HE.out] at e; cases e⟩, hB2.mono hbw⟩
      · replace HE := Lib.hid (HE.out.trans (if_neg h0))
        have h2 : (xd == 0) = false := by simpa using h0
        clear h0
        go_upto_region 6 with fail
        have b7s := b7.grown HPUT.out.2 (own_ne_blk HMS.out b7 (by decide)).symm
        have b3s := b32.grown HPUT.out.2 (own_ne_blk HMS.out b32 (by decide)).symm
        have d3 := b3s.cell 0
        have l3 := b3s.lt
        have HVM := Lib.hid (voidMd_any s m B base bx a { st with ms := st.ms.set k (mendedM ⟨xn, xb, xp, xq, 1, xr, xd, xe⟩) } g7 g3 g k xp _ HPUT.out.1 ⟨b7s, b3s⟩ HMA.out (by simpa using HKL.out) (HPO.out _) htk)
        have HBS := Lib.hid ((hB2.mono hbw).setCell (p := ⟨g, k * 13 + 9, none⟩) hgB (.int .i64 2))
        have d7s := b7s.cell 0
        generalize hW3 : W2.setCell ⟨g, k * 13 + 9, none⟩ (.int .i64 2) = W3 at *
        go_upto_region 7 with fail
        clear hW3 y9 y11 hyf d7 l7 ly b7 b32
        go_wp2_with fail
        refine HVM.out.mono ?_
        rintro e W4 ⟨rfl, hI4, hB4⟩
        have HI4 := Lib.hid hI4
        have HB4 := Lib.hid (HBS.out.trans hB4)
        clear hI4 hB4
        go_wp2
        go_ret
        exact ⟨⟨by rw [HE.out]; rfl, fun e => absurd HE.out e, fun _ => ⟨_, by rw [HST.out]; exact HI4.out⟩⟩, HB4.out⟩
    · replace HE := Lib.hid (HE.out.trans (if_neg h1))
      have h2 : (xs != 1) = true := by simpa using h1
      have H1 := Lib.hid h1; clear h1
      go_wp2
      go_ret
      exact ⟨⟨by rw [HE.out]; rfl, fun _ => HI2.out, fun e => by rw [HE.out] at e; cases e⟩, hB2.mono hbw⟩
end Go.Proofs.YtmdbpkomanhpoaaGreatDoor
