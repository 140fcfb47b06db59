/- What an entry of a kind does; the law of an entry. An entry entered (inspection.enter). -/
import Derived.Test.YtmdbpkomanhpoaaGreatDoorZqOwE
namespace Go.Proofs.YtmdbpkomanhpoaaGreatDoor
open Go.RowKit Go.Lib

/-- The role that a kind asks for, and how many words stand behind its name. -/
def kRole (k : Nat) : Int := match k with | 0 => 1 | 1 => 1 | 2 => 1 | 3 => 2 | 4 => 2 | 5 => 3 | _ => 3
def kW (k : Nat) : Nat := match k with | 0 => 3 | 1 => 2 | 2 => 1 | 3 => 8 | 4 => 1 | 5 => 1 | _ => 0
def kindF (k : Nat) : FuncId := match k with
  | 0 => 64
  | 1 => 65
  | 2 => 66
  | 3 => 67
  | 4 => 68
  | 5 => 69
  | _ => 70
theorem kindC_eq : ∀ k : Nat, kindC k = #[.int .i64 (kRole k), .int .i64 ((kW k : Nat) : Int), .func (.func (kindF k)) #[] #[]]
  | 0 => rfl
  | 1 => rfl
  | 2 => rfl
  | 3 => rfl
  | 4 => rfl
  | 5 => rfl
  | _ + 6 => rfl
theorem kW_le (k : Nat) : kW k ≤ 8 := by unfold kW; split <;> decide
/-- The error of an entry of a kind, and the state behind it. -/
def doE (k : Nat) (s : Se) (st : In) (bb : ByteArray) (ws : List ByteArray) : Int := match k with
  | 0 => tuneE s st ws
  | 1 => scanE s st ws
  | 2 => doubtE st ws
  | 3 => (match ws with | nm :: y :: qs => markE s st nm (y :: qs) qs | _ => 7)
  | 4 => (match ws with | nm :: _ => deciE s st bb nm | _ => 7)
  | 5 => (match ws with | nm :: _ => mendE st nm | _ => 7)
  | _ => closeE s st
def doS (k : Nat) (s : Se) (st : In) (bb : ByteArray) (ws : List ByteArray) : In := match k with
  | 0 => tuneS st ws
  | 1 => scanS st ws
  | 2 => doubtS st ws
  | 3 => (match ws with | nm :: y :: qs => markS st nm bb (y :: qs) qs | _ => st)
  | 4 => (match ws with | nm :: _ => deciS s st bb nm | _ => st)
  | 5 => (match ws with | nm :: _ => mendS s st nm | _ => st)
  | _ => closeS st
theorem join_two' (x y : List UInt8) (r : List (List UInt8)) : join (x :: y :: r) [32] = x ++ [32] ++ join (y :: r) [32] := by
  simp [join, List.intercalate, List.intersperse]
theorem join_le2 (n : Nat) : ∀ (ws : List (List UInt8)), (∀ x ∈ ws, x.length ≤ n) → (join ws [32]).length ≤ ws.length * (n + 1)
  | [], _ => by simp [join_nil]
  | [x], h => by rw [join_one]; have := h x (by simp); simp; omega
  | x :: y :: r, h => by
    have ih := join_le2 n (y :: r) (fun z hz => h z (List.mem_cons_of_mem _ hz))
    have hx := h x (by simp)
    rw [join_two']
    simp only [List.length_append, List.length_cons, List.length_nil, Nat.add_mul] at ih ⊢
    omega
theorem joinW_size {ws : List ByteArray} {n : Nat} (h : ∀ x ∈ ws, x.size ≤ n) : (joinW ws).size ≤ ws.length * (n + 1) := by
  unfold joinW
  rw [strB_size]
  have := join_le2 n (ws.map (·.data.toList)) (fun l hl => by
    obtain ⟨x, hx, rfl⟩ := List.mem_map.1 hl
    rw [Array.length_toList]
    exact h x hx)
  rwa [List.length_map] at this
theorem do_any (k : Nat) (hk : k ≤ 6) (s : Se) (m : Me) (B base bx : Nat) (a : Ia) (st : In) (bb : ByteArray) (ws : List ByteArray) (A : Option Addr) (c C : Nat) (w : World) (h : Isp s m B base bx a st w) (hw : WsOk ws A c C w) (hn : ws.length = kW k) (htk : TkFine s.tk) (hL : LibW w) (hQ : Quant w) (hT : Tz w) :
    Calls Tryz.prog (kindF k) #[.pointer (some ⟨bx, 0, none⟩), .string bb, .slice A ws.length c] w fun e w' => StepR s m B base bx a st (doE k s st bb ws) (doS k s st bb ws) e w' ∧ Below base w w' := by
  obtain rfl | rfl | rfl | rfl | rfl | rfl | rfl : k = 0 ∨ k = 1 ∨ k = 2 ∨ k = 3 ∨ k = 4 ∨ k = 5 ∨ k = 6 := by omega
  · exact tune_any s m B base bx a st bb ws A c C w h hw hL (fun e => by rw [e] at hn; cases hn)
  · exact scan_any s m B base bx a st bb ws A c C w h hw hn hL
  · have := doubt_any s m B base bx a st bb ws A c C w h hw hn hL
    rw [show ws.length = 1 from hn]
    exact this
  · obtain ⟨nm, y, qs, rfl⟩ : ∃ nm y qs, ws = nm :: y :: qs := by
      match ws, hn with
      | nm :: y :: qs, _ => exact ⟨nm, y, qs, rfl⟩
      | [_], h => cases h
      | [], h => cases h
    have h6 : qs.length = 6 := by have h8 : (nm :: y :: qs).length = 8 := hn; simp at h8; omega
    have := mark_any s m B base bx a st bb nm y qs A c C w h hw h6 (Nat.le_trans (joinW_size (n := 1000) (fun x hx => hw.sz x (by simp [hx]))) (by rw [h6]; decide)) hL hQ
    rw [show (nm :: y :: qs).length = 8 from hn]
    exact this
  · obtain ⟨nm, rfl⟩ : ∃ nm, ws = [nm] := by
      match ws, hn with
      | [nm], _ => exact ⟨nm, rfl⟩
      | [], h => cases h
      | _ :: _ :: _, h => simp [kW] at h
    exact insDecide_any s m B base bx a st bb nm A c C w h hw hQ hT
  · obtain ⟨nm, rfl⟩ : ∃ nm, ws = [nm] := by
      match ws, hn with
      | [nm], _ => exact ⟨nm, rfl⟩
      | [], h => cases h
      | _ :: _ :: _, h => simp [kW] at h
    exact mend_any s m B base bx a st bb nm A c C w h hw htk
  · exact close_any s m B base bx a st _ _ w h

/-- The first word of a text. -/
def hdW (t : ByteArray) : ByteArray := (cutB 32 t).headD ⟨#[]⟩
theorem cut_cons (t : ByteArray) : ∃ tl, cutB 32 t = hdW t :: tl := by
  unfold hdW
  cases h : cutB 32 t with
  | nil => have := cutB_length 32 t; rw [h] at this; simp at this
  | cons x l => exact ⟨l, rfl⟩
def whoV (s : Se) (bb : ByteArray) : Int := idxV (fun p => sameB p.nm bb) s.pe
def roleV (s : Se) (bb : ByteArray) : Int := ((s.pe[(whoV s bb).toNat]?).map (·.role)).getD 0
def enterK (s : Se) (st : In) (bb t : ByteArray) : Nat → Int := fun k =>
  if roleV s bb < kRole k then 17 else if st.cl = true then 20 else if ¬ (cutB 32 t).length = 1 + kW k then 7 else
  if ((cutB 32 t).any fun y => sameB ⟨#[]⟩ y) = true then 7 else doE k s st bb (cutB 32 t).tail
/-- The error of an entry, and the state behind it. -/
def enterE (s : Se) (st : In) (bb t : ByteArray) : Int :=
  if whoV s bb = -1 then 6 else if 200 < t.size then 8 else match kindI (hdW t) with
  | none => 7
  | some k => enterK s st bb t k
def enterS (s : Se) (st : In) (bb t : ByteArray) : In := match kindI (hdW t) with
  | none => st
  | some k => doS k s st bb (cutB 32 t).tail
theorem kindI_le {t : ByteArray} {k : Nat} (h : kindI t = some k) : k ≤ 6 := by
  unfold kindI at h
  repeat (split at h; · cases h; decide)
  cases h
theorem track_fine {t : Tk} (h : trackE t = 0) : TkFine t := by
  unfold trackE at h
  unfold TkFine
  split at h
  · cases h
  split at h
  · cases h
  split at h
  · cases h
  rename_i h1
  split at h
  · cases h
  rename_i h2
  have w1 := wi_true (by simpa using h1)
  have w2 := wi_true (by simpa using h2)
  omega
theorem setup_track {s : Se} (h : (setupE' s).2 = 0) : TkFine s.tk := by
  refine track_fine ?_
  unfold setupE' at h
  split at h
  · split at h
    · split at h
      · split at h
        · split at h
          · rename_i h1; exact h1
          · exact h
        · rename_i h1; exact absurd h h1
      · cases h
    · rename_i h1; exact absurd h h1
  · rename_i h1; exact absurd h h1
end Go.Proofs.YtmdbpkomanhpoaaGreatDoor

namespace Go.Proofs.YtmdbpkomanhpoaaGreatDoor
open Go.RowKit Go.Lib

theorem blk2_ {w : World} {g t : Nat} {v0 v1 : Value} (h : Blk w g t #[v0, v1]) : w.cell? ⟨g, 0, none⟩ = some v0 ∧ w.cell? ⟨g, 1, none⟩ = some v1 ∧ ∀ i, w.frozen? ⟨g, i, none⟩ = false := ⟨h.cell 0, h.cell 1, h.frozen⟩
theorem blk3_ {w : World} {g t : Nat} {v0 v1 v2 : Value} (h : Blk w g t #[v0, v1, v2]) : w.cell? ⟨g, 0, none⟩ = some v0 ∧ w.cell? ⟨g, 1, none⟩ = some v1 ∧ w.cell? ⟨g, 2, none⟩ = some v2 ∧ ∀ i, w.frozen? ⟨g, i, none⟩ = false := ⟨h.cell 0, h.cell 1, h.cell 2, h.frozen⟩
theorem StepR.gr {s : Se} {m : Me} {B base bx : Nat} {a : Ia} {st st' : In} {E : Int} {e : Ending} {w w' : World} (h : StepR s m B base bx a st E st' e w) (hg : Gr w w') : StepR s m B base bx a st E st' e w' :=
  ⟨h.1, fun e => (h.2.1 e).below hg (Nat.le_refl _), fun e => by obtain ⟨a', hi⟩ := h.2.2 e; exact ⟨a', hi.below hg (Nat.le_refl _)⟩⟩
theorem callKind : ∀ (k : Nat) (args : Array Value) (w : World), (callFunc (kindF k) args).run Tryz.prog w = .ok (.enter (kindF k) args) w
  | 0, _, _ => by simp [kindF, callFunc, go_sem, Tryz.func64]; rfl
  | 1, _, _ => by simp [kindF, callFunc, go_sem, Tryz.func65]; rfl
  | 2, _, _ => by simp [kindF, callFunc, go_sem, Tryz.func66]; rfl
  | 3, _, _ => by simp [kindF, callFunc, go_sem, Tryz.func67]; rfl
  | 4, _, _ => by simp [kindF, callFunc, go_sem, Tryz.func68]; rfl
  | 5, _, _ => by simp [kindF, callFunc, go_sem, Tryz.func69]; rfl
  | _ + 6, _, _ => by simp [kindF, callFunc, go_sem, Tryz.func70]; rfl
theorem idxV_case {α : Type} (P : α → Bool) (l : List α) : idxV P l = -1 ∨ ∃ k : Nat, idxV P l = (k : Int) ∧ k < l.length := by
  cases h : List.findIdx? P l with
  | none => exact .inl (by unfold idxV; rw [h])
  | some k =>
    have h2 : idxV P l = (k : Int) := by unfold idxV; rw [h]
    exact .inr ⟨k, h2, (idxV_lt h2).1⟩
set_option maxRecDepth 100000 in
set_option maxHeartbeats 4000000 in
theorem enter_any (s : Se) (m : Me) (B base bx : Nat) (a : Ia) (st : In) (bb t : ByteArray) (w : World) (h : Isp s m B base bx a st w) (hpl : s.pe.length ≤ 20) (ht : t.size ≤ 1000000) (htk : TkFine s.tk) (hL : LibW w) (hQ : Quant w) (hT : Tz w) :
    Calls Tryz.prog 27 #[.pointer (some ⟨bx, 0, none⟩), .agg #[.string bb, .string t]] w fun e w' => StepR s m B base bx a st (enterE s st bb t) (enterS s st bb t) e w' ∧ Below base w w' := by
  have HI := Lib.hid h; have HL := Lib.hid hL; have HQ := Lib.hid hQ; have HT := Lib.hid hT; have HTK := Lib.hid htk; have HTS := Lib.hid ht
  have hbw : base ≤ w.heap.size := Nat.le_trans h.lo (Nat.le_of_lt h.blk.lt)
  have hB0 : Below w.heap.size w (w.alloc (.cells #[.string bb, .string t] 36)) := (by repeat (first | (with_reducible exact Below.refl _ _) | (with_reducible assumption) | ((with_reducible refine Below.setCell ?_ ?_ _); rotate_left; · (first | exact Nat.le_refl _ | (simp; done) | (simp; omega) | omega)) | ((with_reducible refine Below.alloc ?_ ?_ _); rotate_left; · (first | exact Nat.le_refl _ | (simp; done) | (simp; omega) | omega)) | (with_reducible apply Below.drew) | (with_reducible apply below_drewN') | (refine Below.trans ?_ (Below.mono (by assumption) (by first | exact Nat.le_refl _ | (simp; done) | (simp; omega) | omega))) | exact Below.refl _ _ | assumption))
  have bo := Blk.new w 36 #[.string bb, .string t]
  have HPE : Hid (∀ W, Below w.heap.size w W → Calls Tryz.prog 46 #[.slice m.pA s.pe.length m.pc, .string bb] W fun e w' => e = .returned (.int .i64 (whoV s bb)) ∧ Below W.heap.size W w') := Lib.hid fun W hW => by
    have hs := HI.out.set.below hW HI.out.set.base
    exact person_any s.pe m.pA m.pc bb B W (by omega) hs.pe.row hs.base
  have HSP : Hid (∀ W, Below w.heap.size w W → Calls Tryz.prog 47 #[.string t, .string ⟨#[32]⟩] W fun e w' => e = .returned (.slice (some ⟨W.heap.size, 0, none⟩) (cutB 32 t).length (cutB 32 t).length) ∧ w' = W.alloc (.cells (strsC (cutB 32 t)).toArray 9)) := Lib.hid fun W hW => split_any t 32 HTS.out W (HL.out.below hW (Nat.le_refl _))
  have HE : Hid (enterE s st bb t = if whoV s bb = -1 then 6 else if 200 < t.size then 8 else match kindI (hdW t) with | none => 7 | some k => enterK s st bb t k) := Lib.hid rfl
  have HST : Hid (enterS s st bb t = match kindI (hdW t) with | none => st | some k => doS k s st bb (cutB 32 t).tail) := Lib.hid rfl
  have HRO : Hid (roleV s bb = ((s.pe[(whoV s bb).toNat]?).map (·.role)).getD 0) := Lib.hid rfl
  have HCASE : whoV s bb = -1 ∨ ∃ k : Nat, whoV s bb = (k : Int) ∧ k < s.pe.length := idxV_case _ _
  have HEK : Hid (∀ k, enterK s st bb t k = if roleV s bb < kRole k then 17 else if st.cl = true then 20 else if ¬ (cutB 32 t).length = 1 + kW k then 7 else if ((cutB 32 t).any fun y => sameB ⟨#[]⟩ y) = true then 7 else doE k s st bb (cutB 32 t).tail) := Lib.hid fun k => rfl
  generalize enterE s st bb t = E at *
  generalize enterS s st bb t = st' at *
  generalize enterK s st bb t = EK at *
  generalize whoV s bb = ix at *
  generalize roleV s bb = ro at *
  have HSZ : Hid (∀ x ∈ cutB 32 t, x.size ≤ t.size) := Lib.hid fun x hx => cutB_size hx
  obtain ⟨tl, htl⟩ := cut_cons t
  rw [htl] at HST HEK HSP HSZ
  generalize hdW t = hd at *
  clear htl htk hL hQ hT ht hpl
  have hX0 := h.below hB0 (Nat.le_refl _)
  clear h
  generalize hW0 : w.alloc (.cells #[.string bb, .string t] 36) = W0 at *
  go_enter Tryz.func27, Tryz.ntmps27
  go_upto_region 1 with fail
  clear hW0
  have hg3 : w.heap.size ≤ w.heap.size := Nat.le_refl _
  generalize hgg : w.heap.size = g3 at bo hg3 ⊢
  clear hgg
  obtain ⟨c0, c1, c2, c3, c4, c5, c6, c7, c8, c9, c10, c11, c12, c13, c14, c15, c16, cf⟩ := blk17 hX0.blk
  have lb := hX0.blk.lt
  obtain ⟨d0, d1, df⟩ := blk2_ bo
  have lg := bo.lt
  clear c1 c2 c3 c4 c5 c6 c7 c8 c9 c10 c11 c12 c13 c14 c15 c16 cf d1
  refine wp_region_w (Gr _) (by kernel_rfl) (Below.refl _ _).drew ?_
  refine wpW_det (t' := ?ct0R23) 0 (by rfl) (by kernel_rfl) (NQ_free _) (by kernel_rfl) ?cw0R23 ?ch0R23 ?ca0R23 (Eq.refl _) ?cH0R23
  case cw0R23 => (go_simp; done)
  case ch0R23 =>
    intro ds w' hS K hK
    have hc := (bcell hS).1
    have hf := (bcell hS).2
    have hz := hS.size
    try simp at hz
    go_simp
    try go_bits
    first
      | exact hK _ hS (Gr.refl _)
      | exact hK _ (by repeat (first | (with_reducible exact Below.refl _ _) | (with_reducible assumption) | ((with_reducible refine Below.setCell ?_ ?_ _); rotate_left; · (first | exact Nat.le_refl _ | (simp; done) | (simp; omega) | omega)) | ((with_reducible refine Below.alloc ?_ ?_ _); rotate_left; · (first | exact Nat.le_refl _ | (simp; done) | (simp; omega) | omega)) | (with_reducible apply Below.drew) | (with_reducible apply below_drewN') | (refine Below.trans ?_ (Below.mono (by assumption) (by first | exact Nat.le_refl _ | (simp; done) | (simp; omega) | omega))) | exact Below.refl _ _ | assumption)) (by repeat (first | (with_reducible exact Below.refl _ _) | (with_reducible assumption) | ((with_reducible refine Below.setCell ?_ ?_ _); rotate_left; · (first | exact Nat.le_refl _ | (simp; done) | (simp; omega) | omega)) | ((with_reducible refine Below.alloc ?_ ?_ _); rotate_left; · (first | exact Nat.le_refl _ | (simp; done) | (simp; omega) | omega)) | (with_reducible apply Below.drew) | (with_reducible apply below_drewN') | (refine Below.trans ?_ (Below.mono (by assumption) (by first | exact Nat.le_refl _ | (simp; done) | (simp; omega) | omega))) | exact Below.refl _ _ | assumption))
  case ca0R23 => (first | (simp [Act.put]; done) | (simp [Act.put, *]; done))
  try dsimp only
  refine wpW_det (t' := ?ct1R23) 1 (by rfl) (by kernel_rfl) (NQ_free _) (by kernel_rfl) ?cw1R23 ?ch1R23 ?ca1R23 (Eq.refl _) ?cH1R23
  case cw1R23 => (go_simp; done)
  case ch1R23 =>
    intro ds w' hS K hK
    have hc := (bcell hS).1
    have hf := (bcell hS).2
    have hz := hS.size
    try simp at hz
    go_simp
    try go_bits
    first
      | exact hK _ hS (Gr.refl _)
      | exact hK _ (by repeat (first | (with_reducible exact Below.refl _ _) | (with_reducible assumption) | ((with_reducible refine Below.setCell ?_ ?_ _); rotate_left; · (first | exact Nat.le_refl _ | (simp; done) | (simp; omega) | omega)) | ((with_reducible refine Below.alloc ?_ ?_ _); rotate_left; · (first | exact Nat.le_refl _ | (simp; done) | (simp; omega) | omega)) | (with_reducible apply Below.drew) | (with_reducible apply below_drewN') | (refine Below.trans ?_ (Below.mono (by assumption) (by first | exact Nat.le_refl _ | (simp; done) | (simp; omega) | omega))) | exact Below.refl _ _ | assumption)) (by repeat (first | (with_reducible exact Below.refl _ _) | (with_reducible assumption) | ((with_reducible refine Below.setCell ?_ ?_ _); rotate_left; · (first | exact Nat.le_refl _ | (simp; done) | (simp; omega) | omega)) | ((with_reducible refine Below.alloc ?_ ?_ _); rotate_left; · (first | exact Nat.le_refl _ | (simp; done) | (simp; omega) | omega)) | (with_reducible apply Below.drew) | (with_reducible apply below_drewN') | (refine Below.trans ?_ (Below.mono (by assumption) (by first | exact Nat.le_refl _ | (simp; done) | (simp; omega) | omega))) | exact Below.refl _ _ | assumption))
  case ca1R23 => (first | (simp [Act.put]; done) | (simp [Act.put, *]; done))
  try dsimp only
  refine wpW_det (t' := ?ct2R23) 2 (by rfl) (by kernel_rfl) (NQ_free _) (by kernel_rfl) ?cw2R23 ?ch2R23 ?ca2R23 (Eq.refl _) ?cH2R23
  case cw2R23 => (go_simp; done)
  case ch2R23 =>
    intro ds w' hS K hK
    have hc := (bcell hS).1
    have hf := (bcell hS).2
    have hz := hS.size
    try simp at hz
    go_simp
    try go_bits
    first
      | exact hK _ hS (Gr.refl _)
      | exact hK _ (by repeat (first | (with_reducible exact Below.refl _ _) | (with_reducible assumption) | ((with_reducible refine Below.setCell ?_ ?_ _); rotate_left; · (first | exact Nat.le_refl _ | (simp; done) | (simp; omega) | omega)) | ((with_reducible refine Below.alloc ?_ ?_ _); rotate_left; · (first | exact Nat.le_refl _ | (simp; done) | (simp; omega) | omega)) | (with_reducible apply Below.drew) | (with_reducible apply below_drewN') | (refine Below.trans ?_ (Below.mono (by assumption) (by first | exact Nat.le_refl _ | (simp; done) | (simp; omega) | omega))) | exact Below.refl _ _ | assumption)) (by repeat (first | (with_reducible exact Below.refl _ _) | (with_reducible assumption) | ((with_reducible refine Below.setCell ?_ ?_ _); rotate_left; · (first | exact Nat.le_refl _ | (simp; done) | (simp; omega) | omega)) | ((with_reducible refine Below.alloc ?_ ?_ _); rotate_left; · (first | exact Nat.le_refl _ | (simp; done) | (simp; omega) | omega)) | (with_reducible apply Below.drew) | (with_reducible apply below_drewN') | (refine Below.trans ?_ (Below.mono (by assumption) (by first | exact Nat.le_refl _ | (simp; done) | (simp; omega) | omega))) | exact Below.refl _ _ | assumption))
  case ca2R23 => (first | (simp [Act.put]; done) | (simp [Act.put, *]; done))
  try dsimp only
  refine wpW_det (t' := ?ct3R23) 3 (by rfl) (by kernel_rfl) (NQ_free _) (by kernel_rfl) ?cw3R23 ?ch3R23 ?ca3R23 (Eq.refl _) ?cH3R23
  case cw3R23 => (go_simp; done)
  case ch3R23 =>
    intro ds w' hS K hK
    have hc := (bcell hS).1
    have hf := (bcell hS).2
    have hz := hS.size
    try simp at hz
    go_simp
    try go_bits
    first
      | exact hK _ hS (Gr.refl _)
      | exact hK _ (by repeat (first | (with_reducible exact Below.refl _ _) | (with_reducible assumption) | ((with_reducible refine Below.setCell ?_ ?_ _); rotate_left; · (first | exact Nat.le_refl _ | (simp; done) | (simp; omega) | omega)) | ((with_reducible refine Below.alloc ?_ ?_ _); rotate_left; · (first | exact Nat.le_refl _ | (simp; done) | (simp; omega) | omega)) | (with_reducible apply Below.drew) | (with_reducible apply below_drewN') | (refine Below.trans ?_ (Below.mono (by assumption) (by first | exact Nat.le_refl _ | (simp; done) | (simp; omega) | omega))) | exact Below.refl _ _ | assumption)) (by repeat (first | (with_reducible exact Below.refl _ _) | (with_reducible assumption) | ((with_reducible refine Below.setCell ?_ ?_ _); rotate_left; · (first | exact Nat.le_refl _ | (simp; done) | (simp; omega) | omega)) | ((with_reducible refine Below.alloc ?_ ?_ _); rotate_left; · (first | exact Nat.le_refl _ | (simp; done) | (simp; omega) | omega)) | (with_reducible apply Below.drew) | (with_reducible apply below_drewN') | (refine Below.trans ?_ (Below.mono (by assumption) (by first | exact Nat.le_refl _ | (simp; done) | (simp; omega) | omega))) | exact Below.refl _ _ | assumption))
  case ca3R23 => (first | (simp [Act.put]; done) | (simp [Act.put, *]; done))
  try dsimp only
  refine wpW_det (t' := ?ct4R23) 4 (by rfl) (by kernel_rfl) (NQ_free _) (by kernel_rfl) ?cw4R23 ?ch4R23 ?ca4R23 (Eq.refl _) ?cH4R23
  case cw4R23 => (go_simp; done)
  case ch4R23 =>
    intro ds w' hS K hK
    have hc := (bcell hS).1
    have hf := (bcell hS).2
    have hz := hS.size
    try simp at hz
    go_simp
    try go_bits
    first
      | exact hK _ hS (Gr.refl _)
      | exact hK _ (by repeat (first | (with_reducible exact Below.refl _ _) | (with_reducible assumption) | ((with_reducible refine Below.setCell ?_ ?_ _); rotate_left; · (first | exact Nat.le_refl _ | (simp; done) | (simp; omega) | omega)) | ((with_reducible refine Below.alloc ?_ ?_ _); rotate_left; · (first | exact Nat.le_refl _ | (simp; done) | (simp; omega) | omega)) | (with_reducible apply Below.drew) | (with_reducible apply below_drewN') | (refine Below.trans ?_ (Below.mono (by assumption) (by first | exact Nat.le_refl _ | (simp; done) | (simp; omega) | omega))) | exact Below.refl _ _ | assumption)) (by repeat (first | (with_reducible exact Below.refl _ _) | (with_reducible assumption) | ((with_reducible refine Below.setCell ?_ ?_ _); rotate_left; · (first | exact Nat.le_refl _ | (simp; done) | (simp; omega) | omega)) | ((with_reducible refine Below.alloc ?_ ?_ _); rotate_left; · (first | exact Nat.le_refl _ | (simp; done) | (simp; omega) | omega)) | (with_reducible apply Below.drew) | (with_reducible apply below_drewN') | (refine Below.trans ?_ (Below.mono (by assumption) (by first | exact Nat.le_refl _ | (simp; done) | (simp; omega) | omega))) | exact Below.refl _ _ | assumption))
  case ca4R23 => (first | (simp [Act.put]; done) | (simp [Act.put, *]; done))
  try dsimp only
  refine wpW_det (t' := ?ct5R23) 5 (by rfl) (by kernel_rfl) (NQ_free _) (by kernel_rfl) ?cw5R23 ?ch5R23 ?ca5R23 (Eq.refl _) ?cH5R23
  case cw5R23 => (go_simp; done)
  case ch5R23 =>
    intro ds w' hS K hK
    have hc := (bcell hS).1
    have hf := (bcell hS).2
    have hz := hS.size
    try simp at hz
    go_simp
    try go_bits
    first
      | exact hK _ hS (Gr.refl _)
      | exact hK _ (by repeat (first | (with_reducible exact Below.refl _ _) | (with_reducible assumption) | ((with_reducible refine Below.setCell ?_ ?_ _); rotate_left; · (first | exact Nat.le_refl _ | (simp; done) | (simp; omega) | omega)) | ((with_reducible refine Below.alloc ?_ ?_ _); rotate_left; · (first | exact Nat.le_refl _ | (simp; done) | (simp; omega) | omega)) | (with_reducible apply Below.drew) | (with_reducible apply below_drewN') | (refine Below.trans ?_ (Below.mono (by assumption) (by first | exact Nat.le_refl _ | (simp; done) | (simp; omega) | omega))) | exact Below.refl _ _ | assumption)) (by repeat (first | (with_reducible exact Below.refl _ _) | (with_reducible assumption) | ((with_reducible refine Below.setCell ?_ ?_ _); rotate_left; · (first | exact Nat.le_refl _ | (simp; done) | (simp; omega) | omega)) | ((with_reducible refine Below.alloc ?_ ?_ _); rotate_left; · (first | exact Nat.le_refl _ | (simp; done) | (simp; omega) | omega)) | (with_reducible apply Below.drew) | (with_reducible apply below_drewN') | (refine Below.trans ?_ (Below.mono (by assumption) (by first | exact Nat.le_refl _ | (simp; done) | (simp; omega) | omega))) | exact Below.refl _ _ | assumption))
  case ca5R23 => (first | (simp [Act.put]; done) | (simp [Act.put, *]; done))
  try dsimp only
  refine wpW_det (t' := ?ct6R23) 6 (by rfl) (by kernel_rfl) (NQ_free _) (by kernel_rfl) ?cw6R23 ?ch6R23 ?ca6R23 (Eq.refl _) ?cH6R23
  case cw6R23 => (go_simp; done)
  case ch6R23 =>
    intro ds w' hS K hK
    have hc := (bcell hS).1
    have hf := (bcell hS).2
    have hz := hS.size
    try simp at hz
    go_simp
    try go_bits
    first
      | exact hK _ hS (Gr.refl _)
      | exact hK _ (by repeat (first | (with_reducible exact Below.refl _ _) | (with_reducible assumption) | ((with_reducible refine Below.setCell ?_ ?_ _); rotate_left; · (first | exact Nat.le_refl _ | (simp; done) | (simp; omega) | omega)) | ((with_reducible refine Below.alloc ?_ ?_ _); rotate_left; · (first | exact Nat.le_refl _ | (simp; done) | (simp; omega) | omega)) | (with_reducible apply Below.drew) | (with_reducible apply below_drewN') | (refine Below.trans ?_ (Below.mono (by assumption) (by first | exact Nat.le_refl _ | (simp; done) | (simp; omega) | omega))) | exact Below.refl _ _ | assumption)) (by repeat (first | (with_reducible exact Below.refl _ _) | (with_reducible assumption) | ((with_reducible refine Below.setCell ?_ ?_ _); rotate_left; · (first | exact Nat.le_refl _ | (simp; done) | (simp; omega) | omega)) | ((with_reducible refine Below.alloc ?_ ?_ _); rotate_left; · (first | exact Nat.le_refl _ | (simp; done) | (simp; omega) | omega)) | (with_reducible apply Below.drew) | (with_reducible apply below_drewN') | (refine Below.trans ?_ (Below.mono (by assumption) (by first | exact Nat.le_refl _ | (simp; done) | (simp; omega) | omega))) | exact Below.refl _ _ | assumption))
  case ca6R23 => (first | (simp [Act.put]; done) | (simp [Act.put, *]; done))
  try dsimp only
  refine wpW_branch [7] (by kernel_rfl) (by simp) ?_
  intro u7 hg_u7 hS_u7
  refine each_cons ?_ each_nil
  refine wpOp_go (by rfl) (Eq.refl _) (by go_simp; done) ?_
  intro K hK
  go_simp
  try simp only [Act.put]
  refine (HPE.out _ (hB0.trans (Below.mono hS_u7 hB0.size))).mono ?_
  rintro e wq ⟨rfl, hBq⟩
  refine hK _ _ (Below.trans hS_u7 (hBq.mono (Below.size hS_u7))) ?_
  clear hK K hBq
  refine wpW_det (t' := ?ct8R24) 8 (by rfl) (by kernel_rfl) (NQ_free _) (by kernel_rfl) ?cw8R24 ?ch8R24 ?ca8R24 (Eq.refl _) ?cH8R24
  case cw8R24 => (go_simp; done)
  case ch8R24 =>
    intro ds w' hS K hK
    have hc := (bcell hS).1
    have hf := (bcell hS).2
    have hz := hS.size
    try simp at hz
    go_simp
    try go_bits
    first
      | exact hK _ hS (Gr.refl _)
      | exact hK _ (by repeat (first | (with_reducible exact Below.refl _ _) | (with_reducible assumption) | ((with_reducible refine Below.setCell ?_ ?_ _); rotate_left; · (first | exact Nat.le_refl _ | (simp; done) | (simp; omega) | omega)) | ((with_reducible refine Below.alloc ?_ ?_ _); rotate_left; · (first | exact Nat.le_refl _ | (simp; done) | (simp; omega) | omega)) | (with_reducible apply Below.drew) | (with_reducible apply below_drewN') | (refine Below.trans ?_ (Below.mono (by assumption) (by first | exact Nat.le_refl _ | (simp; done) | (simp; omega) | omega))) | exact Below.refl _ _ | assumption)) (by repeat (first | (with_reducible exact Below.refl _ _) | (with_reducible assumption) | ((with_reducible refine Below.setCell ?_ ?_ _); rotate_left; · (first | exact Nat.le_refl _ | (simp; done) | (simp; omega) | omega)) | ((with_reducible refine Below.alloc ?_ ?_ _); rotate_left; · (first | exact Nat.le_refl _ | (simp; done) | (simp; omega) | omega)) | (with_reducible apply Below.drew) | (with_reducible apply below_drewN') | (refine Below.trans ?_ (Below.mono (by assumption) (by first | exact Nat.le_refl _ | (simp; done) | (simp; omega) | omega))) | exact Below.refl _ _ | assumption))
  case ca8R24 => (first | (simp [Act.put]; done) | (simp [Act.put, *]; done))
  try dsimp only
  refine wpW_end (by kernel_rfl) ?_
  intro W1 hg hS
  unfold NQ
  dsimp only
  clear hg
  have hB1 := hB0.trans (hS.mono hB0.size)
  have bo1 := bo.below hS bo.lt
  have HX1 := Lib.hid (hX0.below hS (Nat.le_refl _))
  clear hS hX0 hB0 bo c0 lb d0 df lg HPE
  obtain ⟨d0, d1, df⟩ := blk2_ bo1
  have lg := bo1.lt
  clear d0
  rcases HCASE with rfl | ⟨k, rfl, hk⟩
  · replace HE := Lib.hid (HE.out.trans (if_pos rfl))
    go_wp2
    go_ret
    exact ⟨⟨by rw [HE.out]; rfl, fun _ => HX1.out, fun e => by rw [HE.out] at e; cases e⟩, hB1.mono hbw⟩
  replace HE := Lib.hid (HE.out.trans (if_neg (by omega)))
  have hk0 : ¬ ((k : Int) < 0) := by omega
  have hkl : (k : Int) < (s.pe.length : Int) := by omega
  by_cases h200 : 200 < t.size
  · replace HE := Lib.hid (HE.out.trans (if_pos h200))
    have h2 : (200 : Int) < (t.size : Int) := by omega
    clear h200
    go_wp2
    go_ret
    exact ⟨⟨by rw [HE.out]; rfl, fun _ => HX1.out, fun e => by rw [HE.out] at e; cases e⟩, hB1.mono hbw⟩
  replace HE := Lib.hid (HE.out.trans (if_neg h200))
  have h2 : ¬ ((200 : Int) < (t.size : Int)) := by omega
  have H200 := Lib.hid h200
  clear h200
  go_wp2_with fail
  refine (HSP.out W1 hB1).mono ?_
  rintro e W2 ⟨rfl, hW2⟩
  have hBa : Below W1.heap.size W1 W2 := by rw [hW2]; exact (Below.refl _ _).alloc (Nat.le_refl _) _
  have bs : Blk W2 W1.heap.size 9 (strsC (hd :: tl)).toArray := by rw [hW2]; exact Blk.new _ _ _
  have hgs : w.heap.size ≤ W1.heap.size := hB1.size
  clear hW2
  have hB2 := hB1.trans (hBa.mono hB1.size)
  have bo2 := bo1.below hBa bo1.lt
  have HX2 := Lib.hid (HX1.out.below hBa (Nat.le_refl _))
  clear hBa bo1 HX1 d1 df lg hB1 HSP
  generalize W1.heap.size = gs at *
  have x0 : W2.cell? ⟨gs, 0, none⟩ = some (.string hd) := bs.cell 0
  have lgs := bs.lt
  simp only [List.length_cons]
  go_wp2_with fail
  refine (kindOf_any hd W2).mono ?_
  rintro e W3 ⟨hKR, hBa⟩
  have hB3 := hB2.trans (hBa.mono hB2.size)
  have bo3 := bo2.below hBa bo2.lt
  have bs3 := bs.below hBa bs.lt
  have HX3 := Lib.hid (HX2.out.below hBa (Nat.le_refl _))
  clear hBa bo2 HX2 hB2 bs x0 lgs
  unfold KindR at hKR
  obtain ⟨ki, hki⟩ : ∃ ki, kindI hd = ki := ⟨_, rfl⟩
  rw [hki] at HE HST hKR
  cases ki with
  | none =>
    simp only at hKR HE HST
    subst hKR
    have HX4 := Lib.hid (HX3.out.below ((Below.refl _ _).alloc (Nat.le_refl _) (.cells #[.int .i64 0, .int .i64 0, .nilFunc] 127 (0, 0))) (Nat.le_refl _))
    have hB4 := hB3.alloc hB3.size (.cells #[.int .i64 0, .int .i64 0, .nilFunc] 127 (0, 0))
    clear hki
    go_wp2
    go_ret
    exact ⟨⟨by rw [HE.out]; rfl, fun _ => HX4.out, fun e => by rw [HE.out] at e; cases e⟩, hB4.mono hbw⟩
  | some kn =>
    simp only at hKR HE HST
    rw [HEK.out] at HE
    clear HEK
    have HKP := Lib.hid (kindI_le hki)
    rw [kindC_eq] at hKR
    subst hKR
    have hkw8 := kW_le kn
    have HDO := Lib.hid (do_any kn HKP.out)
    have HCK := Lib.hid (callKind kn)
    clear hki HKP
    generalize kRole kn = kr at *
    generalize kindF kn = kf at *
    generalize kW kn = kw at *
    generalize doE kn = dE at *
    generalize doS kn = dS at *
    have bk := Blk.new W3 127 #[.int .i64 kr, .int .i64 (kw : Int), .func (.func kf) #[] #[]]
    have hB4 := hB3.alloc hB3.size (.cells #[.int .i64 kr, .int .i64 (kw : Int), .func (.func kf) #[] #[]] 127 (0, 0))
    have bo4 := bo3.alloc (.cells #[.int .i64 kr, .int .i64 (kw : Int), .func (.func kf) #[] #[]] 127 (0, 0))
    have bs4 := bs3.alloc (.cells #[.int .i64 kr, .int .i64 (kw : Int), .func (.func kf) #[] #[]] 127 (0, 0))
    have HX4 := Lib.hid (HI.out.below hB4 (Nat.le_refl _))
    clear bo3 bs3 HX3
    generalize hW4 : W3.alloc (.cells #[.int .i64 kr, .int .i64 (kw : Int), .func (.func kf) #[] #[]] 127) = W4 at *
    go_upto_region 10 with fail
    clear hW4 hB3
    generalize W3.heap.size = gk at *
    obtain ⟨c0, c1, c2, c3, c4, c5, c6, c7, c8, c9, c10, c11, c12, c13, c14, c15, c16, cf⟩ := blk17 HX4.out.blk
    have lb := HX4.out.blk.lt
    clear c1 c2 c3 c4 c5 c6 c7 c8 c9 c10 c11 c12 c13 c14 c15 c16 cf
    obtain ⟨k0, k1, k2, kff⟩ := blk3_ bk
    have lk := bk.lt
    clear k1 k2 kff
    obtain ⟨gp, op, hpA, hgp, e0, e1⟩ := HX4.out.set.pe.row.at2 peF_len hk rfl
    have hro : s.pe[k].role = ro := by rw [HRO.out]; simp [hk]
    rw [hro] at e1
    rw [hpA] at c0
    have hgp4 : gp < W4.heap.size := Nat.lt_of_lt_of_le hgp HX4.out.set.base
    clear e0 hro HRO hpA
    refine wp_region_b 13 (by kernel_rfl) (by kernel_rfl) ?_; simp only [List.take, List.drop]
    repeat (first
      | (apply StepsD.run
         · go_simp
           done
         · intro w' hS K hK
           have hc := (bcell hS).1
           have hf := (bcell hS).2
           have hz := hS.size
           try simp at hz
           go_simp
           try go_bits
           first
             | exact hK _ hS
             | fail
             | exact hK _ (by repeat (first | (with_reducible exact Below.refl _ _) | (with_reducible assumption) | ((with_reducible refine Below.setCell ?_ ?_ _); rotate_left; · (first | exact Nat.le_refl _ | (simp; done) | (simp; omega) | omega)) | ((with_reducible refine Below.alloc ?_ ?_ _); rotate_left; · (first | exact Nat.le_refl _ | (simp; done) | (simp; omega) | omega)) | (with_reducible apply Below.drew) | (with_reducible apply below_drewN') | (refine Below.trans ?_ (Below.mono (by assumption) (by first | exact Nat.le_refl _ | (simp; done) | (simp; omega) | omega))) | exact Below.refl _ _ | assumption))
         · simp [Act.put]
           done)
      | (apply StepsD.pass
         · first | (go_simp; done) | rfl
         · simp only [Act.put, List.setIfInBounds_toArray, List.set_cons_succ, List.set_cons_zero]
           rfl))
    intro W5 hS5
    have hB5 := hB4.trans (hS5.mono hB4.size)
    have bo5 := bo4.below hS5 bo4.lt
    have bs5 := bs4.below hS5 bs4.lt
    have bk5 := bk.below hS5 bk.lt
    have HX5 := Lib.hid (HX4.out.below hS5 (Nat.le_refl _))
    clear hS5 hB4 bo4 bs4 bk HX4 c0 k0 e1 lb lk hgp4 hgp
    by_cases hr : ro < kr
    · replace HE := Lib.hid (HE.out.trans (if_pos hr))
      go_wp2
      go_ret
      exact ⟨⟨by rw [HE.out]; rfl, fun _ => HX5.out, fun e => by rw [HE.out] at e; cases e⟩, hB5.mono hbw⟩
    replace HE := Lib.hid (HE.out.trans (if_neg hr))
    obtain ⟨c0, c1, c2, c3, c4, c5, c6, c7, c8, c9, c10, c11, c12, c13, c14, c15, c16, cf⟩ := blk17 HX5.out.blk
    have lb := HX5.out.blk.lt
    clear c0 c1 c2 c3 c4 c5 c6 c7 c8 c9 c10 c11 c12 c13 c14 c15 cf
    obtain ⟨cl, hcl⟩ : ∃ cl, st.cl = cl := ⟨_, rfl⟩
    rw [hcl] at HE c16
    clear hcl
    cases cl
    rotate_left
    · replace HE := Lib.hid (HE.out.trans (if_pos rfl))
      go_wp2
      go_ret
      exact ⟨⟨by rw [HE.out]; rfl, fun _ => HX5.out, fun e => by rw [HE.out] at e; cases e⟩, hB5.mono hbw⟩
    replace HE := Lib.hid (HE.out.trans (if_neg (by simp)))
    go_upto_region 14 with fail
    clear c16 lb hr
    obtain ⟨k0, k1, k2, kff⟩ := blk3_ bk5
    have lk := bk5.lt
    clear k0 k2 kff
    have hwr : IntKind.i64.wrap (1 + (kw : Int)) = 1 + (kw : Int) := IntWalk.i64_in _ (by omega)
    obtain ⟨n, hn⟩ : ∃ n, tl.length + 1 = n := ⟨_, rfl⟩
    rw [hn]
    simp only [List.length_cons, hn, List.tail_cons] at HE HST
    by_cases hnk : n = 1 + kw
    rotate_left
    · replace HE := Lib.hid (HE.out.trans (if_pos hnk))
      have hne : ((n : Int) != 1 + (kw : Int)) = true := by simp; omega
      have HNK := Lib.hid hnk; clear hnk hn
      go_wp2
      go_ret
      exact ⟨⟨by rw [HE.out]; rfl, fun _ => HX5.out, fun e => by rw [HE.out] at e; cases e⟩, hB5.mono hbw⟩
    replace HE := Lib.hid (HE.out.trans (if_neg (by simp [hnk])))
    have hne : ((n : Int) != 1 + (kw : Int)) = false := by simp; omega
    have HCO := Lib.hid (containsS (hd :: tl) (some ⟨gs, 0, none⟩) n ⟨#[]⟩ (gs + 1) W5 (by simp; omega) ⟨by simp, fun _ => ⟨gs, 0, rfl, by omega, fun j u hu => by
      have := bs5.cell j
      rw [Nat.zero_add, this, List.getElem?_toArray]
      exact hu⟩⟩)
    simp only [List.length_cons, hn] at HCO
    obtain ⟨em, hem⟩ : ∃ em, ((hd :: tl).any fun y => sameB ⟨#[]⟩ y) = em := ⟨_, rfl⟩
    rw [hem] at HE HCO
    clear hem
    have HNK := Lib.hid hnk; have HN := Lib.hid hn; clear hnk hn
    cases em
    rotate_left
    · replace HE := Lib.hid (HE.out.trans (if_pos rfl))
      go_wp2_with (go_at_call 49; refine HCO.out.mono ?_; rintro e w1 ⟨rfl, rfl⟩)
      go_ret
      exact ⟨⟨by rw [HE.out]; rfl, fun _ => HX5.out, fun e => by rw [HE.out] at e; cases e⟩, hB5.mono hbw⟩
    replace HE := Lib.hid (HE.out.trans (if_neg (by simp)))
    go_upto_region 16 with (go_at_call 49; refine HCO.out.mono ?_; rintro e w1 ⟨rfl, rfl⟩)
    clear k1 lk hwr hne HCO
    have hbw5 : base ≤ W5.heap.size := Nat.le_trans hbw hB5.size
    have e1 : n - 1 = kw := by rw [HNK.out]; omega
    have hn1 : (1 : Int) ≤ (n : Int) := by have := HNK.out; omega
    have hn2 : 1 ≤ n := by have := HNK.out; omega
    refine wp_region_w (fun w' => Below base W5 w') (by kernel_rfl) (((Below.refl _ _).drew)) ?_
    refine wpW_det (t' := ?ct0R25) 0 (by rfl) (by kernel_rfl) (NQ_free _) (by kernel_rfl) ?cw0R25 ?ch0R25 ?ca0R25 (Eq.refl _) ?cH0R25
    case cw0R25 => (go_simp; done)
    case ch0R25 =>
      intro ds w' hS K hK
      go_simp
      try go_bits
      exact hK _ hS (Gr.refl _)
    case ca0R25 => (first | (simp [Act.put]; done) | (simp [Act.put, *]; done))
    try dsimp only
    refine wpW_det (t' := ?ct2R25) 2 (by rfl) (by kernel_rfl) (NQ_free _) (by kernel_rfl) ?cw2R25 ?ch2R25 ?ca2R25 (Eq.refl _) ?cH2R25
    case cw2R25 => (go_simp; done)
    case ch2R25 =>
      intro ds w' hS K hK
      go_simp
      try go_bits
      exact hK _ hS (Gr.refl _)
    case ca2R25 => (first | (simp [Act.put]; done) | (simp [Act.put, *]; done))
    try dsimp only
    refine wpW_det (t' := ?ct3R25) 3 (by rfl) (by kernel_rfl) (NQ_free _) (by kernel_rfl) ?cw3R25 ?ch3R25 ?ca3R25 (Eq.refl _) ?cH3R25
    case cw3R25 => (go_simp; done)
    case ch3R25 =>
      intro ds w' hS K hK
      go_simp
      try go_bits
      exact hK _ hS (Gr.refl _)
    case ca3R25 => (first | (simp [Act.put]; done) | (simp [Act.put, *]; done))
    try dsimp only
    refine wpW_det (t' := ?ct5R25) 5 (by rfl) (by kernel_rfl) (NQ_free _) (by kernel_rfl) ?cw5R25 ?ch5R25 ?ca5R25 (Eq.refl _) ?cH5R25
    case cw5R25 => (go_simp; done)
    case ch5R25 =>
      intro ds w' hS K hK
      go_simp
      try go_bits
      exact hK _ hS (Gr.refl _)
    case ca5R25 => (first | (simp [Act.put]; done) | (simp [Act.put, *]; done))
    try dsimp only
    refine wpW_det (t' := ?ct6R25) 6 (by rfl) (by kernel_rfl) (NQ_free _) (by kernel_rfl) ?cw6R25 ?ch6R25 ?ca6R25 (Eq.refl _) ?cH6R25
    case cw6R25 => (go_simp; done)
    case ch6R25 =>
      intro ds w' hS K hK
      go_simp
      try go_bits
      exact hK _ hS (Gr.refl _)
    case ca6R25 => (first | (simp [Act.put]; done) | (simp [Act.put, *]; done))
    try dsimp only
    have hI : Isp s m B base bx a st W5.drew := HX5.out.below (C := W5.heap.size) ⟨rfl, rfl, rfl, Nat.le_refl _, fun _ _ => rfl⟩ (Nat.le_refl _)
    have hBb : Below base W5 W5.drew := ⟨rfl, rfl, rfl, Nat.le_refl _, fun _ _ => rfl⟩
    have hBw : Below w.heap.size w W5.drew := hB5.trans (Below.mono ⟨rfl, rfl, rfl, Nat.le_refl _, fun _ _ => rfl⟩ (Nat.le_refl _))
    have bo6 : Blk W5.drew g3 36 #[.string bb, .string t] := bo5.drew
    have bk6 : Blk W5.drew gk 127 #[.int .i64 kr, .int .i64 (kw : Int), .func (.func kf) #[] #[]] := bk5.drew
    have bs6 : Blk W5.drew gs 9 (strsC (hd :: tl)).toArray := bs5.drew
    clear bo5 bk5 bs5 HX5
    refine wpW_branch [1, 4] (by kernel_rfl) (by simp) ?_
    intro w1 hg1 hS1
    replace hI := hI.below hg1 (Nat.le_refl _)
    replace hBw := Below.trans hBw (Below.mono hg1 (Below.size hBw))
    replace bo6 := Blk.gr bo6 hg1
    replace bk6 := Blk.gr bk6 hg1
    replace bs6 := Blk.gr bs6 hg1
    obtain ⟨d0, d1, df⟩ := blk2_ bo6
    have lg := bo6.lt
    obtain ⟨k0, k1, k2, kff⟩ := blk3_ bk6
    have lk := bk6.lt
    clear d1 df k0 k1 kff
    refine each_cons ?_ (each_cons ?_ (each_nil))
    · refine wpOp_go (by rfl) (Eq.refl _) (by go_simp; done) ?_
      intro K hK
      go_simp
      try simp only [Act.put]
      refine hK _ _ hS1 ?_
      clear hK K d0 lg k2 lk
      refine wpW_branch [4] (by kernel_rfl) (by simp) ?_
      intro w2 hg2 hS2
      replace hI := hI.below hg2 (Nat.le_refl _)
      replace hBw := Below.trans hBw (Below.mono hg2 (Below.size hBw))
      replace bo6 := Blk.gr bo6 hg2
      replace bk6 := Blk.gr bk6 hg2
      replace bs6 := Blk.gr bs6 hg2
      obtain ⟨d0, d1, df⟩ := blk2_ bo6
      have lg := bo6.lt
      obtain ⟨k0, k1, k2, kff⟩ := blk3_ bk6
      have lk := bk6.lt
      clear d1 df k0 k1 kff
      refine each_cons ?_ (each_nil)
      refine wpOp_go (by rfl) (Eq.refl _) (by go_simp; done) ?_
      intro K hK
      go_simp
      try simp only [Act.put]
      refine hK _ _ hS2 ?_
      clear hK K d0 lg k2 lk
      refine wpW_branch [7] (by kernel_rfl) (by simp) ?_
      intro w3 hg3 hS3
      replace hI := hI.below hg3 (Nat.le_refl _)
      replace hBw := Below.trans hBw (Below.mono hg3 (Below.size hBw))
      replace bo6 := Blk.gr bo6 hg3
      replace bk6 := Blk.gr bk6 hg3
      replace bs6 := Blk.gr bs6 hg3
      obtain ⟨d0, d1, df⟩ := blk2_ bo6
      have lg := bo6.lt
      obtain ⟨k0, k1, k2, kff⟩ := blk3_ bk6
      have lk := bk6.lt
      clear d1 df k0 k1 kff
      refine each_cons ?_ (each_nil)
      refine wpOp_go (by rfl) (Eq.refl _) (by go_simp; done) ?_
      intro K hK
      go_simp
      try simp only [Act.put]
      clear d0 lg k2 lk
      have hlk : tl.length = kw := by have h1 := HN.out; have h2 := HNK.out; omega
      have hWs : WsOk tl (if n = 1 then some ⟨gs, 0, none⟩ else some ⟨gs, 1, none⟩) kw (gs + 1) w3 := ⟨⟨by simp [strsC], fun h0 => ⟨gs, 1, if_neg (by have h1 := HN.out; omega), by omega, fun j u hu => by
        have := bs6.cell (1 + j)
        rw [this, List.getElem?_toArray, Nat.add_comm]
        exact hu⟩⟩, bs6.lt, by omega, by omega, fun x hx => Nat.le_trans (HSZ.out x (List.mem_cons_of_mem _ hx)) (by have := H200.out; omega), Nat.le_trans (joinW_size (n := 200) (fun x hx => Nat.le_trans (HSZ.out x (List.mem_cons_of_mem _ hx)) (by have := H200.out; omega))) (by rw [hlk]; omega)⟩
      have HC := Lib.hid (HDO.out s m B base bx a st bb tl _ _ _ w3 hI hWs hlk HTK.out (HL.out.below hBw (Nat.le_refl _)) (HQ.out.below hBw (Nat.le_refl _)) (HT.out.below hBw (Nat.le_refl _)))
      rw [hlk] at HC
      clear hWs hlk
      rw [HCK.out, Oper.upon_enter]
      refine HC.out.mono ?_
      rintro e wq ⟨hR, hBq⟩
      have HR := Lib.hid hR
      obtain ⟨rfl, -, -⟩ := hR
      refine hK _ _ (Below.trans hS3 hBq) ?_
      clear hK K hBq HC
      refine wpW_branch [8] (by kernel_rfl) (by simp) ?_
      intro w4 hg4 hS4
      replace HR := Lib.hid (HR.out.gr hg4)
      refine each_cons ?_ (each_nil)
      refine wpOp_go (by rfl) (Eq.refl _) (by go_simp; done) ?_
      intro K hK
      go_simp
      try simp only [Act.put]
      refine hK _ _ hS4 ?_
      clear hK K
      refine wpW_end (by kernel_rfl) ?_
      intro we hg hS
      unfold NQ
      dsimp only
      have HR2 := Lib.hid (HR.out.gr hg)
      go_wp2
      all_goals
        go_ret
        exact ⟨by rw [HE.out, HST.out]; exact HR2.out, (hB5.mono hbw).trans hS⟩
    · refine wpOp_go (by rfl) (Eq.refl _) (by go_simp; done) ?_
      intro K hK
      go_simp
      try simp only [Act.put]
      refine hK _ _ hS1 ?_
      clear hK K d0 lg k2 lk
      refine wpW_branch [1] (by kernel_rfl) (by simp) ?_
      intro w2 hg2 hS2
      replace hI := hI.below hg2 (Nat.le_refl _)
      replace hBw := Below.trans hBw (Below.mono hg2 (Below.size hBw))
      replace bo6 := Blk.gr bo6 hg2
      replace bk6 := Blk.gr bk6 hg2
      replace bs6 := Blk.gr bs6 hg2
      obtain ⟨d0, d1, df⟩ := blk2_ bo6
      have lg := bo6.lt
      obtain ⟨k0, k1, k2, kff⟩ := blk3_ bk6
      have lk := bk6.lt
      clear d1 df k0 k1 kff
      refine each_cons ?_ (each_nil)
      refine wpOp_go (by rfl) (Eq.refl _) (by go_simp; done) ?_
      intro K hK
      go_simp
      try simp only [Act.put]
      refine hK _ _ hS2 ?_
      clear hK K d0 lg k2 lk
      refine wpW_branch [7] (by kernel_rfl) (by simp) ?_
      intro w3 hg3 hS3
      replace hI := hI.below hg3 (Nat.le_refl _)
      replace hBw := Below.trans hBw (Below.mono hg3 (Below.size hBw))
      replace bo6 := Blk.gr bo6 hg3
      replace bk6 := Blk.gr bk6 hg3
      replace bs6 := Blk.gr bs6 hg3
      obtain ⟨d0, d1, df⟩ := blk2_ bo6
      have lg := bo6.lt
      obtain ⟨k0, k1, k2, kff⟩ := blk3_ bk6
      have lk := bk6.lt
      clear d1 df k0 k1 kff
      refine each_cons ?_ (each_nil)
      refine wpOp_go (by rfl) (Eq.refl _) (by go_simp; done) ?_
      intro K hK
      go_simp
      try simp only [Act.put]
      clear d0 lg k2 lk
      have hlk : tl.length = kw := by have h1 := HN.out; have h2 := HNK.out; omega
      have hWs : WsOk tl (if n = 1 then some ⟨gs, 0, none⟩ else some ⟨gs, 1, none⟩) kw (gs + 1) w3 := ⟨⟨by simp [strsC], fun h0 => ⟨gs, 1, if_neg (by have h1 := HN.out; omega), by omega, fun j u hu => by
        have := bs6.cell (1 + j)
        rw [this, List.getElem?_toArray, Nat.add_comm]
        exact hu⟩⟩, bs6.lt, by omega, by omega, fun x hx => Nat.le_trans (HSZ.out x (List.mem_cons_of_mem _ hx)) (by have := H200.out; omega), Nat.le_trans (joinW_size (n := 200) (fun x hx => Nat.le_trans (HSZ.out x (List.mem_cons_of_mem _ hx)) (by have := H200.out; omega))) (by rw [hlk]; omega)⟩
      have HC := Lib.hid (HDO.out s m B base bx a st bb tl _ _ _ w3 hI hWs hlk HTK.out (HL.out.below hBw (Nat.le_refl _)) (HQ.out.below hBw (Nat.le_refl _)) (HT.out.below hBw (Nat.le_refl _)))
      rw [hlk] at HC
      clear hWs hlk
      rw [HCK.out, Oper.upon_enter]
      refine HC.out.mono ?_
      rintro e wq ⟨hR, hBq⟩
      have HR := Lib.hid hR
      obtain ⟨rfl, -, -⟩ := hR
      refine hK _ _ (Below.trans hS3 hBq) ?_
      clear hK K hBq HC
      refine wpW_branch [8] (by kernel_rfl) (by simp) ?_
      intro w4 hg4 hS4
      replace HR := Lib.hid (HR.out.gr hg4)
      refine each_cons ?_ (each_nil)
      refine wpOp_go (by rfl) (Eq.refl _) (by go_simp; done) ?_
      intro K hK
      go_simp
      try simp only [Act.put]
      refine hK _ _ hS4 ?_
      clear hK K
      refine wpW_end (by kernel_rfl) ?_
      intro we hg hS
      unfold NQ
      dsimp only
      have HR2 := Lib.hid (HR.out.gr hg)
      go_wp2
      all_goals
        go_ret
        exact ⟨by rw [HE.out, HST.out]; exact HR2.out, (hB5.mono hbw).trans hS⟩
end Go.Proofs.YtmdbpkomanhpoaaGreatDoor
