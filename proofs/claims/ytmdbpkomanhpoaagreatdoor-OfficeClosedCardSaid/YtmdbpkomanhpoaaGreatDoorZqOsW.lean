/- Contracts: copies of codes, steps and set-ups by the references. -/
import Derived.Laws.AppendOwnNone
import Derived.Test.YtmdbpkomanhpoaaGreatDoorZqOsU
import Derived.Test.YtmdbpkomanhpoaaGreatDoorZqOsS
import Derived.Test.YtmdbpkomanhpoaaGreatDoorZqCvV
import Derived.Test.YtmdbpkomanhpoaaGreatDoorZqOsR
namespace Go.Proofs.YtmdbpkomanhpoaaGreatDoor
open Go.RowKit

theorem infoPe : (Tryz.prog.info? 104).map (fun i => (i.zero, i.size, i.bytes)) = some (some (.agg #[.string ⟨#[]⟩, .int .i64 0]), 2, 24) := by kernel_rfl
theorem infoSt : (Tryz.prog.info? 109).map (fun i => (i.zero, i.size, i.bytes)) = some (some (.agg #[.string ⟨#[]⟩, .int .i64 0, .int .i64 0, .slice none 0 0]), 4, 56) := by kernel_rfl
theorem infoLv : (Tryz.prog.info? 111).map (fun i => (i.zero, i.size, i.bytes)) = some (some (.agg #[.int .i64 0, .int .i64 0]), 2, 16) := by kernel_rfl
theorem infoI : (Tryz.prog.info? 3).map (fun i => (i.zero, i.size, i.bytes)) = some (some (.int .i64 0), 1, 8) := by kernel_rfl

theorem Src.keep_ {w w' : World} {size : Nat} {A : Option Addr} {m c : Nat} {xs : List Value} (h : Src w size A m c xs) (hk : ∀ b o, b < w.heap.size → w'.cell? ⟨b, o, none⟩ = w.cell? ⟨b, o, none⟩) : Src w' size A m c xs := by
  obtain ⟨hn, B, hl, hR⟩ := h
  refine ⟨hn, B, hl, fun h0 => ?_⟩
  obtain ⟨g, o, hA, hb, hc⟩ := hR h0
  refine ⟨g, o, hA, hb, fun j u hu => ?_⟩
  have := hc j u hu
  rw [hk _ _ (World.block_lt_of_cell? _ _ this)]
  exact this
theorem Src.alloc {w : World} {size : Nat} {A : Option Addr} {m c : Nat} {xs : List Value} (h : Src w size A m c xs) (o : Obj) : Src (w.alloc o) size A m c xs := h.keep_ fun _ _ hb => World.cell?_alloc_lt w o _ hb
theorem Src.below {w w' : World} {size : Nat} {A : Option Addr} {m c : Nat} {xs : List Value} (h : Src w size A m c xs) (hb : Below w.heap.size w w') : Src w' size A m c xs := h.keep_ fun b o hB => hb.cell (p := ⟨b, o, none⟩) hB
theorem rowsPe_one (l : List Pe) : ∀ u ∈ rowsC peF l, u.oneCell' = true := by
  intro u hu
  simp only [rowsC, List.mem_flatMap] at hu
  obtain ⟨p, _, hp⟩ := hu
  simp [peF] at hp
  rcases hp with rfl | rfl <;> rfl
theorem rowsLv_one (l : List Lv) : ∀ u ∈ rowsC lvF l, u.oneCell' = true := by
  intro u hu
  simp only [rowsC, List.mem_flatMap] at hu
  obtain ⟨p, _, hp⟩ := hu
  simp [lvF] at hp
  rcases hp with rfl | rfl <;> rfl
theorem rowsSt_one (l : List St) : ∀ u ∈ rowsC stF l, u.oneCell' = true := by
  intro u hu
  simp only [rowsC, List.mem_flatMap] at hu
  obtain ⟨p, _, hp⟩ := hu
  simp [stF] at hp
  rcases hp with rfl | rfl | rfl | rfl <;> rfl
theorem ints_one (l : List Int) : ∀ u ∈ intsC l, u.oneCell' = true := by
  intro u hu
  simp only [intsC, List.mem_map] at hu
  obtain ⟨p, _, rfl⟩ := hu
  rfl
/-- A store into a block below a row of the call's own. -/
theorem own_far {w : World} {base e size n : Nat} {v : Value} {xs : List Value} (h : w.ownsRow base e size v n xs) {p : Addr} (hp : p.block < base) (u : Value) : (w.setCell p u).ownsRow base e size v n xs :=
  h.kept (only_setCell (World.grownBy.refl w (some p.block)) (.inl rfl) u) (.inr (Ne.symm (own_ne h (.inl hp))))
/-- A store into a row of the call's own. -/
theorem own_put {w : World} {base e size n cap g j : Nat} {xs : List Value} (h : w.ownsRow base e size (.slice (some ⟨g, 0, none⟩) n cap) n xs) (_hj : j < n * size) (u : Value) : (w.setCell ⟨g, j, none⟩ u).ownsRow base e size (.slice (some ⟨g, 0, none⟩) n cap) n (xs.set j u) := by
  obtain ⟨hl, ⟨hv, _⟩ | ⟨g', cap', cur, hv, hb, hh, hcap, hmax, hsz, htk⟩⟩ := h
  · cases hv
  · cases hv
    have hset : Blk (w.setCell ⟨g, j, none⟩ u) g e (cur.setIfInBounds j u) := Blk.set_ (show Blk w g e cur from hh) j u
    refine ⟨by simpa using hl, .inr ⟨g, cap, cur.setIfInBounds j u, rfl, hb, hset, hcap, hmax, by simpa using hsz, ?_⟩⟩
    rw [← htk, Array.toList_setIfInBounds, List.take_set]
theorem rowsC_set {α : Type} {f : α → List Value} {n : Nat} (hf : ∀ a, (f a).length = n) : ∀ (l : List α) (k : Nat) (hk : k < l.length) (j : Nat) (_hj : j < n) (u : Value) (a : α), f a = (f l[k]).set j u → (rowsC f l).set (k * n + j) u = rowsC f (l.set k a)
  | q :: l, 0, _, j, hj, u, a, h => by
    simp only [List.getElem_cons_zero] at h
    rw [List.set_cons_zero, rowsC_cons, rowsC_cons, h, Nat.zero_mul, Nat.zero_add, List.set_append_left _ _ (by rw [hf]; exact hj)]
  | q :: l, k + 1, hk, j, hj, u, a, h => by
    have ih := rowsC_set hf l k (by simpa using hk) j hj u a (by simpa using h)
    rw [List.set_cons_succ, rowsC_cons, rowsC_cons, ← ih, List.set_append_right _ _ (by rw [hf, Nat.add_mul, Nat.one_mul]; omega), hf]
    congr 2
    rw [Nat.add_mul, Nat.one_mul]; omega
/-- The same steps, their needs perhaps elsewhere. -/
def Alike (l q : List St) : Prop := q.length = l.length ∧ ∀ k (h : k < l.length) (h' : k < q.length), q[k].nm = l[k].nm ∧ q[k].lasts = l[k].lasts ∧ q[k].warm = l[k].warm ∧ q[k].needs = l[k].needs
theorem Alike.refl (l : List St) : Alike l l := ⟨rfl, fun _ _ _ => ⟨rfl, rfl, rfl, rfl⟩⟩
theorem Alike.any {l q : List St} (h : Alike l q) (nm : ByteArray) (k : Nat) : (q.take k).any (fun t => sameB t.nm nm) = (l.take k).any (fun t => sameB t.nm nm) := by
  induction k with
  | zero => rfl
  | succ k ih =>
    by_cases hk : k < l.length
    · rw [any_take_snoc _ _ (by rw [h.1]; exact hk), any_take_snoc _ _ hk, ih, (h.2 k hk (by rw [h.1]; exact hk)).1]
    · rw [List.take_of_length_le (by rw [h.1]; omega), List.take_of_length_le (by omega)] 
      rw [List.take_of_length_le (by rw [h.1]; omega), List.take_of_length_le (by omega)] at ih
      exact ih
theorem stepsE_alike {l q : List St} (h : Alike l q) : stepsE q = stepsE l := by
  have he : ∀ j, j < l.length → stepE q j = stepE l j := fun j hj => by
    have hj' : j < q.length := by rw [h.1]; exact hj
    obtain ⟨a, b, c, d⟩ := h.2 j hj hj'
    rw [stepE_at hj', stepE_at hj, a, b, c, d, h.any]
  unfold stepsE
  rw [h.1, firstE_congr he]

set_option maxRecDepth 100000 in
set_option maxHeartbeats 1000000 in
theorem copyRows_any (l : List Rw) (A : Option Addr) (c : Nat) (w : World) (hS : Src w 13 A l.length c (rowsC rwF l)) (hl : l.length ≤ 1000000) :
    Calls Tryz.prog 39 #[.slice A l.length c] w fun e w' => ∃ v, e = .returned v ∧ w'.ownsRow w.heap.size 106 13 v l.length (rowsC rwF l) ∧ Below w.heap.size w w' := by
  obtain ⟨i0, hi, hz0, hz1, hz2⟩ := info_parts infoRw
  have own := own_empty w 106 13
  have hB3 : Below w.heap.size w (w.alloc (.cells #[] 106)) := (Below.refl _ _).alloc (Nat.le_refl _) _
  have hS2 : Src (w.alloc (.cells #[] 106)) 13 A l.length c (rowsC rwF l) := hS.alloc _
  have HS := Lib.hid hS2; clear hS hS2
  go_enter Tryz.func39, Tryz.ntmps39
  go_wp2_with (at_builtin; refine wpList_append_row rfl _ _ 23 rfl w.heap.size 106 i0 (.agg #[.int .i64 0, .int .i64 0, .int .i64 0, .int .i64 0, .int .i64 0, .int .i64 0, .int .i64 0, .int .i64 0, .int .i64 0, .int .i64 0, .int .i64 0, .int .i64 0, .int .i64 0]) 13 104 Tryz.underlying23 hi hz0 hz1 hz2 rfl (by decide) _ _ _ rfl own A l.length c (rowsC rwF l) rfl HS.out (rowsC_one _) (by unfold maxLen; omega) (by omega) (by simp) ?_)
  intro v3 w3 own3 hgrow _
  have hB4 : Below w.heap.size w w3 := below_own hB3 (by omega) own hgrow
  try simp only [Nat.zero_add, List.nil_append] at own3
  go_wp2
  go_ret
  exact ⟨_, rfl, own3, hB4⟩

set_option maxRecDepth 100000 in
set_option maxHeartbeats 1000000 in
theorem copyIntsS_any (l : List Int) (A : Option Addr) (c : Nat) (w : World) (hS : Src w 1 A l.length c (intsC l)) (hl : l.length ≤ 1000000) :
    Calls Tryz.prog 40 #[.slice A l.length c] w fun e w' => ∃ v, e = .returned v ∧ w'.ownsRow w.heap.size 3 1 v l.length (intsC l) ∧ Below w.heap.size w w' := by
  obtain ⟨i0, hi, hz0, hz1, hz2⟩ := info_parts infoI
  have own := own_empty w 3 1
  have hB3 : Below w.heap.size w (w.alloc (.cells #[] 3)) := (Below.refl _ _).alloc (Nat.le_refl _) _
  have hS2 : Src (w.alloc (.cells #[] 3)) 1 A l.length c (intsC l) := hS.alloc _
  have HS := Lib.hid hS2; clear hS hS2
  go_enter Tryz.func40, Tryz.ntmps40
  go_wp2_with (at_builtin; refine wpList_append_row rfl _ _ 107 rfl w.heap.size 3 i0 (.int .i64 0) 1 8 Tryz.underlying107 hi hz0 hz1 hz2 rfl (by decide) _ _ _ rfl own A l.length c (intsC l) rfl HS.out (ints_one _) (by unfold maxLen; omega) (by omega) (by simp) ?_)
  intro v3 w3 own3 hgrow _
  have hB4 : Below w.heap.size w w3 := below_own hB3 (by omega) own hgrow
  try simp only [Nat.zero_add, List.nil_append] at own3
  go_wp2
  go_ret
  exact ⟨_, rfl, own3, hB4⟩

set_option maxRecDepth 100000 in
set_option maxHeartbeats 1000000 in
theorem rCopy_any (k : Cd) (A : Option Addr) (c : Nat) (A' : Option Addr) (c' B : Nat) (w : World) (hk : CdOk k A c A' c' B w) :
    Calls Tryz.prog 21 #[.agg #[.string k.nm, .slice A k.ex.length c, .slice A' k.rows.length c']] w fun e w' => ∃ A2 c2 A2' c2', e = .returned (.agg #[.string k.nm, .slice A2 k.ex.length c2, .slice A2' k.rows.length c2']) ∧
      w'.ownsRow w.heap.size 106 13 (.slice A2 k.ex.length c2) k.ex.length (rowsC rwF k.ex) ∧ w'.ownsRow w.heap.size 106 13 (.slice A2' k.rows.length c2') k.rows.length (rowsC rwF k.rows) ∧ Below w.heap.size w w' := by
  obtain ⟨h1, hl, hl', hR, hR', hn, hn', hB⟩ := hk
  have b0 := (Blk.new w 25 #[.string k.nm, .slice A k.ex.length c, .slice A' k.rows.length c']).alloc (.cells #[.string ⟨#[]⟩, .slice none 0 0, .slice none 0 0] 25 (0, 0))
  have bz := Blk.new' (w.alloc (.cells #[.string k.nm, .slice A k.ex.length c, .slice A' k.rows.length c'] 25)) 25 #[.string ⟨#[]⟩, .slice none 0 0, .slice none 0 0] (g := w.heap.size + 1) (by simp)
  have hB0 : Below w.heap.size w ((w.alloc (.cells #[.string k.nm, .slice A k.ex.length c, .slice A' k.rows.length c'] 25)).alloc (.cells #[.string ⟨#[]⟩, .slice none 0 0, .slice none 0 0] 25)) := (by repeat (first | (with_reducible exact Below.refl _ _) | (with_reducible assumption) | ((with_reducible refine Below.setCell ?_ ?_ _); rotate_left; · (first | exact Nat.le_refl _ | (simp; done) | (simp; omega) | omega)) | ((with_reducible refine Below.alloc ?_ ?_ _); rotate_left; · (first | exact Nat.le_refl _ | (simp; done) | (simp; omega) | omega)) | (with_reducible apply Below.drew) | (with_reducible apply below_drewN') | (refine Below.trans ?_ (Below.mono (by assumption) (by first | exact Nat.le_refl _ | (simp; done) | (simp; omega) | omega))) | exact Below.refl _ _ | assumption))
  have HR := Lib.hid hR; have HR' := Lib.hid hR'; have HN := Lib.hid hn; have HN' := Lib.hid hn'
  clear hR hR' hn hn'
  go_enter Tryz.func21, Tryz.ntmps21
  go_wp2_with fail
  obtain ⟨W0, hW0⟩ : ∃ W0, W0 = ((w.alloc (.cells #[.string k.nm, .slice A k.ex.length c, .slice A' k.rows.length c'] 25)).alloc (.cells #[.string ⟨#[]⟩, .slice none 0 0, .slice none 0 0] 25)) := ⟨_, rfl⟩
  rw [← hW0] at b0 bz hB0 ⊢
  have hsz : W0.heap.size = w.heap.size + 2 := by rw [hW0]; simp
  clear hW0
  have d0 := b0.cell 0; have d1 := b0.cell 1; have d2 := b0.cell 2
  have lb0 := b0.lt
  refine wp_region_w (fun w' => Below (w.heap.size+1) _ w') (by kernel_rfl) (Below.refl _ _).drew ?_
  refine wpW_det (t' := ?ct0R3) 0 (by rfl) (by kernel_rfl) (NQ_free _) (by kernel_rfl) ?cw0R3 ?ch0R3 ?ca0R3 (Eq.refl _) ?cH0R3
  case cw0R3 => (go_simp; done)
  case ch0R3 =>
    intro ds w' hS K hK
    have hc := (bcellB hS).1
    have hf := (bcellB hS).2
    have hz := hS.size
    try simp at hz
    go_simp
    try go_bits
    first
      | exact hK _ hS (Gr.refl _)
      | fail
      | exact hK _ (by repeat (first | (with_reducible exact Below.refl _ _) | (with_reducible assumption) | ((with_reducible refine Below.setCell ?_ ?_ _); rotate_left; · (first | exact Nat.le_refl _ | (simp; done) | (simp; omega) | omega)) | ((with_reducible refine Below.alloc ?_ ?_ _); rotate_left; · (first | exact Nat.le_refl _ | (simp; done) | (simp; omega) | omega)) | (with_reducible apply Below.drew) | (with_reducible apply below_drewN') | (refine Below.trans ?_ (Below.mono (by assumption) (by first | exact Nat.le_refl _ | (simp; done) | (simp; omega) | omega))) | exact Below.refl _ _ | assumption)) (by repeat (first | (with_reducible exact Below.refl _ _) | (with_reducible assumption) | ((with_reducible refine Below.setCell ?_ ?_ _); rotate_left; · (first | exact Nat.le_refl _ | (simp; done) | (simp; omega) | omega)) | ((with_reducible refine Below.alloc ?_ ?_ _); rotate_left; · (first | exact Nat.le_refl _ | (simp; done) | (simp; omega) | omega)) | (with_reducible apply Below.drew) | (with_reducible apply below_drewN') | (refine Below.trans ?_ (Below.mono (by assumption) (by first | exact Nat.le_refl _ | (simp; done) | (simp; omega) | omega))) | exact Below.refl _ _ | assumption))
  case ca0R3 => (first | (simp [Act.put]; done) | (simp [Act.put, *]; done))
  try dsimp only
  refine wpW_det (t' := ?ct1R3) 1 (by rfl) (by kernel_rfl) (NQ_free _) (by kernel_rfl) ?cw1R3 ?ch1R3 ?ca1R3 (Eq.refl _) ?cH1R3
  case cw1R3 => (go_simp; done)
  case ch1R3 =>
    intro ds w' hS K hK
    have hc := (bcellB hS).1
    have hf := (bcellB hS).2
    have hz := hS.size
    try simp at hz
    go_simp
    try go_bits
    first
      | exact hK _ hS (Gr.refl _)
      | fail
      | exact hK _ (by repeat (first | (with_reducible exact Below.refl _ _) | (with_reducible assumption) | ((with_reducible refine Below.setCell ?_ ?_ _); rotate_left; · (first | exact Nat.le_refl _ | (simp; done) | (simp; omega) | omega)) | ((with_reducible refine Below.alloc ?_ ?_ _); rotate_left; · (first | exact Nat.le_refl _ | (simp; done) | (simp; omega) | omega)) | (with_reducible apply Below.drew) | (with_reducible apply below_drewN') | (refine Below.trans ?_ (Below.mono (by assumption) (by first | exact Nat.le_refl _ | (simp; done) | (simp; omega) | omega))) | exact Below.refl _ _ | assumption)) (by repeat (first | (with_reducible exact Below.refl _ _) | (with_reducible assumption) | ((with_reducible refine Below.setCell ?_ ?_ _); rotate_left; · (first | exact Nat.le_refl _ | (simp; done) | (simp; omega) | omega)) | ((with_reducible refine Below.alloc ?_ ?_ _); rotate_left; · (first | exact Nat.le_refl _ | (simp; done) | (simp; omega) | omega)) | (with_reducible apply Below.drew) | (with_reducible apply below_drewN') | (refine Below.trans ?_ (Below.mono (by assumption) (by first | exact Nat.le_refl _ | (simp; done) | (simp; omega) | omega))) | exact Below.refl _ _ | assumption))
  case ca1R3 => (first | (simp [Act.put]; done) | (simp [Act.put, *]; done))
  try dsimp only
  refine wpW_det (t' := ?ct2R3) 2 (by rfl) (by kernel_rfl) (NQ_free _) (by kernel_rfl) ?cw2R3 ?ch2R3 ?ca2R3 (Eq.refl _) ?cH2R3
  case cw2R3 => (go_simp; done)
  case ch2R3 =>
    intro ds w' hS K hK
    have hc := (bcellB hS).1
    have hf := (bcellB hS).2
    have hz := hS.size
    try simp at hz
    go_simp
    try go_bits
    first
      | exact hK _ hS (Gr.refl _)
      | fail
      | exact hK _ (by repeat (first | (with_reducible exact Below.refl _ _) | (with_reducible assumption) | ((with_reducible refine Below.setCell ?_ ?_ _); rotate_left; · (first | exact Nat.le_refl _ | (simp; done) | (simp; omega) | omega)) | ((with_reducible refine Below.alloc ?_ ?_ _); rotate_left; · (first | exact Nat.le_refl _ | (simp; done) | (simp; omega) | omega)) | (with_reducible apply Below.drew) | (with_reducible apply below_drewN') | (refine Below.trans ?_ (Below.mono (by assumption) (by first | exact Nat.le_refl _ | (simp; done) | (simp; omega) | omega))) | exact Below.refl _ _ | assumption)) (by repeat (first | (with_reducible exact Below.refl _ _) | (with_reducible assumption) | ((with_reducible refine Below.setCell ?_ ?_ _); rotate_left; · (first | exact Nat.le_refl _ | (simp; done) | (simp; omega) | omega)) | ((with_reducible refine Below.alloc ?_ ?_ _); rotate_left; · (first | exact Nat.le_refl _ | (simp; done) | (simp; omega) | omega)) | (with_reducible apply Below.drew) | (with_reducible apply below_drewN') | (refine Below.trans ?_ (Below.mono (by assumption) (by first | exact Nat.le_refl _ | (simp; done) | (simp; omega) | omega))) | exact Below.refl _ _ | assumption))
  case ca2R3 => (first | (simp [Act.put]; done) | (simp [Act.put, *]; done))
  try dsimp only
  refine wpW_det (t' := ?ct3R3) 3 (by rfl) (by kernel_rfl) (NQ_free _) (by kernel_rfl) ?cw3R3 ?ch3R3 ?ca3R3 (Eq.refl _) ?cH3R3
  case cw3R3 => (go_simp; done)
  case ch3R3 =>
    intro ds w' hS K hK
    have hc := (bcellB hS).1
    have hf := (bcellB hS).2
    have hz := hS.size
    try simp at hz
    go_simp
    try go_bits
    first
      | exact hK _ hS (Gr.refl _)
      | fail
      | exact hK _ (by repeat (first | (with_reducible exact Below.refl _ _) | (with_reducible assumption) | ((with_reducible refine Below.setCell ?_ ?_ _); rotate_left; · (first | exact Nat.le_refl _ | (simp; done) | (simp; omega) | omega)) | ((with_reducible refine Below.alloc ?_ ?_ _); rotate_left; · (first | exact Nat.le_refl _ | (simp; done) | (simp; omega) | omega)) | (with_reducible apply Below.drew) | (with_reducible apply below_drewN') | (refine Below.trans ?_ (Below.mono (by assumption) (by first | exact Nat.le_refl _ | (simp; done) | (simp; omega) | omega))) | exact Below.refl _ _ | assumption)) (by repeat (first | (with_reducible exact Below.refl _ _) | (with_reducible assumption) | ((with_reducible refine Below.setCell ?_ ?_ _); rotate_left; · (first | exact Nat.le_refl _ | (simp; done) | (simp; omega) | omega)) | ((with_reducible refine Below.alloc ?_ ?_ _); rotate_left; · (first | exact Nat.le_refl _ | (simp; done) | (simp; omega) | omega)) | (with_reducible apply Below.drew) | (with_reducible apply below_drewN') | (refine Below.trans ?_ (Below.mono (by assumption) (by first | exact Nat.le_refl _ | (simp; done) | (simp; omega) | omega))) | exact Below.refl _ _ | assumption))
  case ca3R3 => (first | (simp [Act.put]; done) | (simp [Act.put, *]; done))
  try dsimp only
  refine wpW_det (t' := ?ct5R3) 5 (by rfl) (by kernel_rfl) (NQ_free _) (by kernel_rfl) ?cw5R3 ?ch5R3 ?ca5R3 (Eq.refl _) ?cH5R3
  case cw5R3 => (go_simp; done)
  case ch5R3 =>
    intro ds w' hS K hK
    have hc := (bcellB hS).1
    have hf := (bcellB hS).2
    have hz := hS.size
    try simp at hz
    go_simp
    try go_bits
    first
      | exact hK _ hS (Gr.refl _)
      | fail
      | exact hK _ (by repeat (first | (with_reducible exact Below.refl _ _) | (with_reducible assumption) | ((with_reducible refine Below.setCell ?_ ?_ _); rotate_left; · (first | exact Nat.le_refl _ | (simp; done) | (simp; omega) | omega)) | ((with_reducible refine Below.alloc ?_ ?_ _); rotate_left; · (first | exact Nat.le_refl _ | (simp; done) | (simp; omega) | omega)) | (with_reducible apply Below.drew) | (with_reducible apply below_drewN') | (refine Below.trans ?_ (Below.mono (by assumption) (by first | exact Nat.le_refl _ | (simp; done) | (simp; omega) | omega))) | exact Below.refl _ _ | assumption)) (by repeat (first | (with_reducible exact Below.refl _ _) | (with_reducible assumption) | ((with_reducible refine Below.setCell ?_ ?_ _); rotate_left; · (first | exact Nat.le_refl _ | (simp; done) | (simp; omega) | omega)) | ((with_reducible refine Below.alloc ?_ ?_ _); rotate_left; · (first | exact Nat.le_refl _ | (simp; done) | (simp; omega) | omega)) | (with_reducible apply Below.drew) | (with_reducible apply below_drewN') | (refine Below.trans ?_ (Below.mono (by assumption) (by first | exact Nat.le_refl _ | (simp; done) | (simp; omega) | omega))) | exact Below.refl _ _ | assumption))
  case ca5R3 => (first | (simp [Act.put]; done) | (simp [Act.put, *]; done))
  try dsimp only
  refine wpW_det (t' := ?ct6R3) 6 (by rfl) (by kernel_rfl) (NQ_free _) (by kernel_rfl) ?cw6R3 ?ch6R3 ?ca6R3 (Eq.refl _) ?cH6R3
  case cw6R3 => (go_simp; done)
  case ch6R3 =>
    intro ds w' hS K hK
    have hc := (bcellB hS).1
    have hf := (bcellB hS).2
    have hz := hS.size
    try simp at hz
    go_simp
    try go_bits
    first
      | exact hK _ hS (Gr.refl _)
      | fail
      | exact hK _ (by repeat (first | (with_reducible exact Below.refl _ _) | (with_reducible assumption) | ((with_reducible refine Below.setCell ?_ ?_ _); rotate_left; · (first | exact Nat.le_refl _ | (simp; done) | (simp; omega) | omega)) | ((with_reducible refine Below.alloc ?_ ?_ _); rotate_left; · (first | exact Nat.le_refl _ | (simp; done) | (simp; omega) | omega)) | (with_reducible apply Below.drew) | (with_reducible apply below_drewN') | (refine Below.trans ?_ (Below.mono (by assumption) (by first | exact Nat.le_refl _ | (simp; done) | (simp; omega) | omega))) | exact Below.refl _ _ | assumption)) (by repeat (first | (with_reducible exact Below.refl _ _) | (with_reducible assumption) | ((with_reducible refine Below.setCell ?_ ?_ _); rotate_left; · (first | exact Nat.le_refl _ | (simp; done) | (simp; omega) | omega)) | ((with_reducible refine Below.alloc ?_ ?_ _); rotate_left; · (first | exact Nat.le_refl _ | (simp; done) | (simp; omega) | omega)) | (with_reducible apply Below.drew) | (with_reducible apply below_drewN') | (refine Below.trans ?_ (Below.mono (by assumption) (by first | exact Nat.le_refl _ | (simp; done) | (simp; omega) | omega))) | exact Below.refl _ _ | assumption))
  case ca6R3 => (first | (simp [Act.put]; done) | (simp [Act.put, *]; done))
  try dsimp only
  clear d0 d1 d2
  replace bz := bz.drew
  refine wpW_branch [4] (by kernel_rfl) (by simp) ?_
  intro w1 hg1 hS1
  try replace own4 := own_below own4 hg1
  try replace own7 := own_below own7 hg1
  replace bz := Blk.gr bz hg1
  have z0_1 := bz.cell 0; have z1_1 := bz.cell 1; have z2_1 := bz.cell 2; have zf_1 := bz.frozen
  have hX1 : Below w.heap.size w w1 := hB0.trans (Below.mono hS1 (by omega))
  have hZ1 := Below.size hS1
  refine each_cons ?_ (each_nil)
  refine wpOp_go (by rfl) (Eq.refl _) (by go_simp; done) ?_
  intro K hK
  go_simp
  try simp only [Act.put]
  refine (copyRows_any k.ex A c w1 (Src.mk (HR.out.below hX1 hB) HN.out) (by omega)).mono ?_
  rintro e wa ⟨v4, rfl, own4, hB4⟩
  replace bz := Blk.gr bz hB4
  replace own4 := own4.mono (base' := W0.heap.size) hZ1
  obtain ⟨A4, c4, rfl, _, _, _⟩ := Row.ownd own4
  have hGA : Below (w.heap.size+1) W0 wa := Below.trans hS1 (hB4.mono (by omega))
  clear hB4
  refine hK _ _ hGA ?_
  clear hK K hGA
  refine wpW_branch [7] (by kernel_rfl) (by simp) ?_
  intro w2 hg2 hS2
  try replace own4 := own_below own4 hg2
  try replace own7 := own_below own7 hg2
  replace bz := Blk.gr bz hg2
  have z0_2 := bz.cell 0; have z1_2 := bz.cell 1; have z2_2 := bz.cell 2; have zf_2 := bz.frozen
  have hX2 : Below w.heap.size w w2 := hB0.trans (Below.mono hS2 (by omega))
  have hZ2 := Below.size hS2
  refine each_cons ?_ (each_nil)
  refine wpOp_go (by rfl) (Eq.refl _) (by go_simp; done) ?_
  intro K hK
  go_simp
  try simp only [Act.put]
  refine (copyRows_any k.rows A' c' w2 (Src.mk (HR'.out.below hX2 hB) HN'.out) (by omega)).mono ?_
  rintro e wa ⟨v7, rfl, own7, hB7⟩
  replace bz := Blk.gr bz hB7
  replace own7 := own7.mono (base' := W0.heap.size) hZ2
  replace own4 := own_below own4 hB7
  obtain ⟨A7, c7, rfl, _, _, _⟩ := Row.ownd own7
  have hGA : Below (w.heap.size+1) W0 wa := Below.trans hS2 (hB7.mono (by omega))
  clear hB7
  refine hK _ _ hGA ?_
  clear hK K hGA
  refine wpW_branch [8] (by kernel_rfl) (by simp) ?_
  intro w3 hg3 hS3
  try replace own4 := own_below own4 hg3
  try replace own7 := own_below own7 hg3
  replace bz := Blk.gr bz hg3
  have z0_3 := bz.cell 0; have z1_3 := bz.cell 1; have z2_3 := bz.cell 2; have zf_3 := bz.frozen
  have hX3 : Below w.heap.size w w3 := hB0.trans (Below.mono hS3 (by omega))
  have hZ3 := Below.size hS3
  refine each_cons ?_ (each_nil)
  refine wpOp_go (by rfl) (Eq.refl _) (by go_simp; done) ?_
  intro K hK
  go_simp
  try simp only [Act.put]
  refine hK _ _ hS3 ?_
  clear hK K
  refine wpW_branch [9] (by kernel_rfl) (by simp) ?_
  intro w4 hg4 hS4
  try replace own4 := own_below own4 hg4
  try replace own7 := own_below own7 hg4
  replace bz := Blk.gr bz hg4
  have z0_4 := bz.cell 0; have z1_4 := bz.cell 1; have z2_4 := bz.cell 2; have zf_4 := bz.frozen
  have hX4 : Below w.heap.size w w4 := hB0.trans (Below.mono hS4 (by omega))
  have hZ4 := Below.size hS4
  refine each_cons ?_ (each_nil)
  refine wpOp_go (by rfl) (Eq.refl _) (by go_simp; done) ?_
  intro K hK
  go_simp
  try simp only [Act.put]
  replace bz := ((bz.set_ 0 (.string k.nm)).set_ 1 (.slice A4 k.ex.length c4)).set_ 2 (.slice A7 k.rows.length c7)
  replace own4 := own_far (own_far (own_far own4 (p := ⟨w.heap.size + 1, 0, none⟩) (by simp; omega) (.string k.nm)) (p := ⟨w.heap.size + 1, 1, none⟩) (by simp; omega) (.slice A4 k.ex.length c4)) (p := ⟨w.heap.size + 1, 2, none⟩) (by simp; omega) (.slice A7 k.rows.length c7)
  replace own7 := own_far (own_far (own_far own7 (p := ⟨w.heap.size + 1, 0, none⟩) (by simp; omega) (.string k.nm)) (p := ⟨w.heap.size + 1, 1, none⟩) (by simp; omega) (.slice A4 k.ex.length c4)) (p := ⟨w.heap.size + 1, 2, none⟩) (by simp; omega) (.slice A7 k.rows.length c7)
  refine hK _ _ (((Below.setCell hS4 (by simp) _).setCell (by simp) _).setCell (by simp) _) ?_
  clear hK K
  refine wpW_end (by kernel_rfl) ?_
  intro we hg hS
  unfold NQ
  dsimp only
  have own4 := (own_below own4 hg).mono (base' := w.heap.size) (by omega)
  have own7 := (own_below own7 hg).mono (base' := w.heap.size) (by omega)
  replace bz := Blk.gr bz hg
  have hXE := hB0.trans (Below.mono hS (by omega))
  have y0 : we.cell? ⟨w.heap.size + 1, 0, none⟩ = some (.string k.nm) := bz.cell 0
  have y1 : we.cell? ⟨w.heap.size + 1, 1, none⟩ = some (.slice A4 k.ex.length c4) := bz.cell 1
  have y2 : we.cell? ⟨w.heap.size + 1, 2, none⟩ = some (.slice A7 k.rows.length c7) := bz.cell 2
  go_wp2
  refine bodyPost_ret (v := .agg #[.string k.nm, .slice A4 k.ex.length c4, .slice A7 k.rows.length c7]) ?_ rfl ⟨_, _, _, _, rfl, own4, own7, hXE⟩
  simp [results, Tryz.results21, go_sem, y0, y1, y2]

end Go.Proofs.YtmdbpkomanhpoaaGreatDoor
