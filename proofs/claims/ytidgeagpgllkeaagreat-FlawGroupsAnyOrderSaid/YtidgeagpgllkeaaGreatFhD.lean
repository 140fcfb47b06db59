/- The law FlawGroups answers true. -/
import Derived.Test.YtidgeagpgllkeaaGreatFhC
import Derived.Test.YtidgeagpgllkeaaGreatFfE
namespace Go.Proofs.YtidgeagpgllkeaaGreat
open Go.RowKit Go.Shelf

def lsV (D : List Rw) : List (Value × List Int) := D.map fun q => (rwV q, q.ns)
theorem RwOk.lists {D : List Rw} {A : Option Addr} {B : Nat} {w : World} (h : RwOk D A B w) (hl : ∀ q ∈ D, q.ns.length ≤ 1000000000) : Row w B 1 A (lsV D).length ((lsV D).map (·.1)) ∧ ∀ q ∈ lsV D, IvOk w B q := by
  refine ⟨?_, fun q hq => ?_⟩
  · have : (lsV D).map (·.1) = D.map rwV := by unfold lsV; rw [List.map_map]; rfl
    rw [this, show (lsV D).length = D.length by simp [lsV]]; exact h.row
  · obtain ⟨x, hx, rfl⟩ := List.mem_map.1 hq
    exact ⟨hl x hx, _, _, rfl, h.each x hx⟩
theorem own_rws {w : World} {base : Nat} {v : Value} {D : List Rw} (ho : w.ownsRow base 37 1 v D.length (D.map rwV)) (he : ∀ q ∈ D, w.ownsRow base 3 1 (rwV q) q.ns.length (intsC q.ns)) : ∃ A c, v = .slice A D.length c ∧ RwOk D A w.heap.size w := by
  obtain ⟨A, c, rfl, hR, _, _⟩ := own_row2 ho
  refine ⟨A, c, rfl, hR, fun q hq => ?_, fun q hq => ?_⟩
  · have := he q hq
    obtain ⟨A', c', e, hR', _, _⟩ := own_row2 this
    unfold rwV at e
    injection e with e1 e2 e3
    subst e1
    exact hR'
  · have := he q hq
    obtain ⟨A', c', e, _, hc, _⟩ := own_row2 this
    unfold rwV at e
    injection e with e1 e2 e3
    omega
theorem lsV_snd (D : List Rw) : (lsV D).map (·.2) = D.map (·.ns) := by unfold lsV; rw [List.map_map]; rfl
theorem RwOk.more {D : List Rw} {A : Option Addr} {B B' : Nat} {w : World} (h : RwOk D A B w) (hB : B ≤ B') : RwOk D A B' w := ⟨h.row.more hB, fun q hq => (h.each q hq).more hB, h.cap⟩
theorem res_short {l : List Mk} {r : Ru} {D : List Rw} (h : ResG l r (D.map (·.ns))) : D.length ≤ l.length ∧ ∀ q ∈ D, q.ns.length ≤ l.length := by
  have M : RI l r (D.map (·.ns)) := ⟨h.canon, h.fit⟩
  have hp := h.canon.perm.length_eq
  have hl : (numsTo l.length).length = l.length := by simp [numsTo]
  have key : ∀ L : List (List Int), (∀ g ∈ L, g ≠ []) → L.length ≤ L.flatten.length := by
    intro L
    induction L with
    | nil => intro _; simp
    | cons g L ih =>
      intro hg
      have := ih fun g h => hg g (List.mem_cons_of_mem _ h)
      have h1 : 0 < g.length := List.length_pos_iff.2 (hg g (by simp))
      rw [List.flatten_cons, List.length_append, List.length_cons]; omega
  have key2 : ∀ (L : List (List Int)) (g : List Int), g ∈ L → g.length ≤ L.flatten.length := by
    intro L g
    induction L with
    | nil => intro h; cases h
    | cons a L ih =>
      intro h
      rw [List.flatten_cons, List.length_append]
      rcases List.mem_cons.1 h with rfl | h
      · omega
      · have := ih h; omega
  refine ⟨?_, fun q hq => ?_⟩
  · have := key _ h.canon.pos
    rw [hp, hl] at this
    simpa using this
  · have := key2 _ _ (List.mem_map_of_mem (f := (·.ns)) hq)
    omega

set_option maxRecDepth 100000 in
set_option maxHeartbeats 4000000 in
theorem flawGroups_any (l : List Mk) (A : Option Addr) (c : Nat) (r : Ru) (w : World) (hn : l.length ≤ 9223372036854775807) (hR : Row w w.heap.size 6 A l.length (mksC l)) (hsz : Hid (∀ m ∈ l, m.nm.size ≤ 9223372036854775807)) (hc : l.length ≤ c) (hA : A = none → c = 0) (hrn : W64 r.num) (hrd : W64 r.den) :
    Calls Tryz.prog 6 #[.slice A l.length c, .agg (ruC r)] w fun e w' => e = .returned (.bool true) ∧ Below w.heap.size w w' := by
  have HA := Lib.hid hA; clear hA
  have HRN := Lib.hid hrn; have HRD := Lib.hid hrd
  clear hrn hrd
  have b3 := Blk.new w 62 (ruC r)
  have hBB : Below w.heap.size w (w.alloc (.cells (ruC r) 62)) := (by repeat (first | (with_reducible exact Below.refl _ _) | (with_reducible assumption) | ((with_reducible refine Below.setCell ?_ ?_ _); rotate_left; · (first | exact Nat.le_refl _ | (simp; done) | (simp; omega) | omega)) | ((with_reducible refine Below.alloc ?_ ?_ _); rotate_left; · (first | exact Nat.le_refl _ | (simp; done) | (simp; omega) | omega)) | (with_reducible apply Below.drew) | (with_reducible apply below_drewN') | (refine Below.trans ?_ (Below.mono (by assumption) (by first | exact Nat.le_refl _ | (simp; done) | (simp; omega) | omega))) | exact Below.refl _ _ | assumption))
  go_enter Tryz.func6, Tryz.ntmps6
  go_wp2_with fail
  obtain ⟨W, hW⟩ : ∃ W, w.alloc (.cells (ruC r) 62) = W := ⟨_, rfl⟩
  rw [hW] at b3 hBB ⊢
  clear hW
  refine (awake_any _).mono ?_
  rintro e w1 ⟨rfl, hB1⟩
  replace b3 := b3.gr hB1
  replace hBB := hBB.trans (hB1.mono (Below.size hBB))
  clear hB1
  have l_b3 := b3.lt
  obtain ⟨c0, c1, c2, c3, f3⟩ := blk4r b3
  go_wp2_with fail
  refine (marks_any l A c w.heap.size _ hn (hR.below hBB (Nat.le_refl _)) hsz (Below.size hBB)).mono ?_
  rintro e wc1 ⟨rfl, hBc1⟩
  replace b3 := b3.gr hBc1
  replace hBB := hBB.trans (Below.mono hBc1 (Below.size hBB))
  clear hBc1
  clear l_b3 c0 c1 c2 c3 f3
  have l_b3 := b3.lt
  obtain ⟨c0, c1, c2, c3, f3⟩ := blk4r b3
  cases hm : marksB l
  · go_wp2
    go_ret
    exact ⟨rfl, hBB⟩
  obtain ⟨hl22, hs20⟩ := marksB_true hm
  have hl : MkOk l A w.heap.size w := ⟨by omega, hR, fun m h => by have := hs20 m h; omega⟩
  have HSZ := Lib.hid hl.size
  clear hm hs20 hsz
  obtain ⟨E1, hE1⟩ : ∃ E, (marksE l).1 = E := ⟨_, rfl⟩
  obtain ⟨E2, hE2⟩ : ∃ E, (marksE l).2 = E := ⟨_, rfl⟩
  obtain ⟨ER, hER⟩ : ∃ E, ruleE r = E := ⟨_, rfl⟩
  have HE1 := Lib.hid hE1; have HE2 := Lib.hid hE2; have HER := Lib.hid hER
  have HG0 : Hid (groupedE l r = if E2 = 0 then ER else E2) := Lib.hid (by
    rw [← hE2, ← hER]; unfold groupedE firstE firstE
    by_cases h1 : (marksE l).2 = 0
    · by_cases h2 : ruleE r = 0 <;> simp [h1, h2, firstE]
    · simp [h1])
  clear hE1 hE2 hER
  have HL : Hid (∀ w', Below wc1.heap.size wc1 w' → MkOk l A w.heap.size w') := Lib.hid (fun w' h => hl.below (hBB.trans (h.mono (Below.size hBB))) (Nat.le_refl _))
  have hzw := Below.size hBB
  by_cases hG : groupedE l r = 0
  · have hz : E2 = 0 ∧ ER = 0 := by
      have := HG0.out; rw [hG] at this; split at this <;> omega
    obtain ⟨rfl, rfl⟩ := hz
    have HGZ := Lib.hid hG
    have h20 := (marksE_zero HE2.out).1
    have hrs := ruleE_zero HER.out
    have hms : Hid (∀ m ∈ l, MkS m) := Lib.hid (fun m hm => by
      obtain ⟨k, hk, rfl⟩ := List.getElem_of_mem hm
      exact (markE_zero ((marksE_zero HE2.out).2 k hk hk).1).1)
    clear hG HG0
    go_upto_region 5 with fail
    refine wp_region_w (Gr _) (by kernel_rfl) (Below.refl _ _).drew ?_
    refine wpW_det (t' := ?ct0R55) 0 (by rfl) (by kernel_rfl) (NQ_free _) (by kernel_rfl) ?cw0R55 ?ch0R55 ?ca0R55 (Eq.refl _) ?cH0R55
    case cw0R55 => (go_simp; done)
    case ch0R55 =>
      intro ds w' hS K hK
      have hc := (bcell hS).1
      have hf := (bcell hS).2
      have hz := hS.size
      try simp at hz
      go_simp
      try go_bits
      first
        | exact hK _ hS (Gr.refl _)
        | exact hK _ (by repeat (first | (with_reducible exact Below.refl _ _) | (with_reducible assumption) | ((with_reducible refine Below.setCell ?_ ?_ _); rotate_left; · (first | exact Nat.le_refl _ | (simp; done) | (simp; omega) | omega)) | ((with_reducible refine Below.alloc ?_ ?_ _); rotate_left; · (first | exact Nat.le_refl _ | (simp; done) | (simp; omega) | omega)) | (with_reducible apply Below.drew) | (with_reducible apply below_drewN') | (refine Below.trans ?_ (Below.mono (by assumption) (by first | exact Nat.le_refl _ | (simp; done) | (simp; omega) | omega))) | exact Below.refl _ _ | assumption)) (by repeat (first | (with_reducible exact Below.refl _ _) | (with_reducible assumption) | ((with_reducible refine Below.setCell ?_ ?_ _); rotate_left; · (first | exact Nat.le_refl _ | (simp; done) | (simp; omega) | omega)) | ((with_reducible refine Below.alloc ?_ ?_ _); rotate_left; · (first | exact Nat.le_refl _ | (simp; done) | (simp; omega) | omega)) | (with_reducible apply Below.drew) | (with_reducible apply below_drewN') | (refine Below.trans ?_ (Below.mono (by assumption) (by first | exact Nat.le_refl _ | (simp; done) | (simp; omega) | omega))) | exact Below.refl _ _ | assumption))
    case ca0R55 => (first | (simp [Act.put]; done) | (simp [Act.put, *]; done))
    try dsimp only
    refine wpW_det (t' := ?ct2R55) 2 (by rfl) (by kernel_rfl) (NQ_free _) (by kernel_rfl) ?cw2R55 ?ch2R55 ?ca2R55 (Eq.refl _) ?cH2R55
    case cw2R55 => (go_simp; done)
    case ch2R55 =>
      intro ds w' hS K hK
      have hc := (bcell hS).1
      have hf := (bcell hS).2
      have hz := hS.size
      try simp at hz
      go_simp
      try go_bits
      first
        | exact hK _ hS (Gr.refl _)
        | exact hK _ (by repeat (first | (with_reducible exact Below.refl _ _) | (with_reducible assumption) | ((with_reducible refine Below.setCell ?_ ?_ _); rotate_left; · (first | exact Nat.le_refl _ | (simp; done) | (simp; omega) | omega)) | ((with_reducible refine Below.alloc ?_ ?_ _); rotate_left; · (first | exact Nat.le_refl _ | (simp; done) | (simp; omega) | omega)) | (with_reducible apply Below.drew) | (with_reducible apply below_drewN') | (refine Below.trans ?_ (Below.mono (by assumption) (by first | exact Nat.le_refl _ | (simp; done) | (simp; omega) | omega))) | exact Below.refl _ _ | assumption)) (by repeat (first | (with_reducible exact Below.refl _ _) | (with_reducible assumption) | ((with_reducible refine Below.setCell ?_ ?_ _); rotate_left; · (first | exact Nat.le_refl _ | (simp; done) | (simp; omega) | omega)) | ((with_reducible refine Below.alloc ?_ ?_ _); rotate_left; · (first | exact Nat.le_refl _ | (simp; done) | (simp; omega) | omega)) | (with_reducible apply Below.drew) | (with_reducible apply below_drewN') | (refine Below.trans ?_ (Below.mono (by assumption) (by first | exact Nat.le_refl _ | (simp; done) | (simp; omega) | omega))) | exact Below.refl _ _ | assumption))
    case ca2R55 => (first | (simp [Act.put]; done) | (simp [Act.put, *]; done))
    try dsimp only
    refine wpW_branch [1] (by kernel_rfl) (by simp) ?_
    intro v1 hg_v1 hS_v1
    refine each_cons ?_ each_nil
    refine wpOp_go (by rfl) (Eq.refl _) (by go_simp; done) ?_
    intro K hK
    go_simp
    try simp only [Act.put]
    refine (copyMarks_any l A c w.heap.size _ (HL.out _ hS_v1) hc (by have := Below.size hS_v1; omega) HA.out).mono ?_
    rintro e ws1 ⟨v3, rfl, own3, hBs⟩
    obtain ⟨Am, cm, rfl, hl3, hc3⟩ := copied own3 (by omega) HSZ.out
    refine hK _ _ (Below.trans hS_v1 (hBs.mono (Below.size hS_v1))) ?_
    clear hK K own3 hBs
    refine wpW_branch [3] (by kernel_rfl) (by simp) ?_
    intro v2 hg_v2 hS_v2
    refine each_cons ?_ each_nil
    refine wpOp_go (by rfl) (Eq.refl _) (by go_simp; done) ?_
    intro K hK
    go_simp
    try simp only [Act.put]
    refine (grouped_ok l Am cm _ r _ (hl3.below hg_v2 (Nat.le_refl _)) hc3 (Below.size hg_v2) HRN.out HRD.out HGZ.out).mono ?_
    rintro e ws2 ⟨vG, Ds, rfl, hperm, hpw, ownG, eachG, hBs⟩
    have hresG : ResG l r (Ds.map (·.ns)) := (groups_gi hrs).res hperm (List.pairwise_map.2 (hpw.imp (fun h => h)))
    obtain ⟨AG, cG, rfl, hG⟩ := own_rws ownG eachG
    refine hK _ _ (Below.trans hS_v2 (hBs.mono (Below.size hS_v2))) ?_
    clear hK K ownG eachG hBs hl3 hperm hpw
    refine wpW_det (t' := ?ct4R56) 4 (by rfl) (by kernel_rfl) (NQ_free _) (by kernel_rfl) ?cw4R56 ?ch4R56 ?ca4R56 (Eq.refl _) ?cH4R56
    case cw4R56 => (go_simp; done)
    case ch4R56 =>
      intro ds w' hS K hK
      have hc := (bcell hS).1
      have hf := (bcell hS).2
      have hz := hS.size
      try simp at hz
      go_simp
      try go_bits
      first
        | exact hK _ hS (Gr.refl _)
        | exact hK _ (by repeat (first | (with_reducible exact Below.refl _ _) | (with_reducible assumption) | ((with_reducible refine Below.setCell ?_ ?_ _); rotate_left; · (first | exact Nat.le_refl _ | (simp; done) | (simp; omega) | omega)) | ((with_reducible refine Below.alloc ?_ ?_ _); rotate_left; · (first | exact Nat.le_refl _ | (simp; done) | (simp; omega) | omega)) | (with_reducible apply Below.drew) | (with_reducible apply below_drewN') | (refine Below.trans ?_ (Below.mono (by assumption) (by first | exact Nat.le_refl _ | (simp; done) | (simp; omega) | omega))) | exact Below.refl _ _ | assumption)) (by repeat (first | (with_reducible exact Below.refl _ _) | (with_reducible assumption) | ((with_reducible refine Below.setCell ?_ ?_ _); rotate_left; · (first | exact Nat.le_refl _ | (simp; done) | (simp; omega) | omega)) | ((with_reducible refine Below.alloc ?_ ?_ _); rotate_left; · (first | exact Nat.le_refl _ | (simp; done) | (simp; omega) | omega)) | (with_reducible apply Below.drew) | (with_reducible apply below_drewN') | (refine Below.trans ?_ (Below.mono (by assumption) (by first | exact Nat.le_refl _ | (simp; done) | (simp; omega) | omega))) | exact Below.refl _ _ | assumption))
    case ca4R56 => (first | (simp [Act.put]; done) | (simp [Act.put, *]; done))
    try dsimp only
    refine wpW_det (t' := ?ct5R56) 5 (by rfl) (by kernel_rfl) (NQ_free _) (by kernel_rfl) ?cw5R56 ?ch5R56 ?ca5R56 (Eq.refl _) ?cH5R56
    case cw5R56 => (go_simp; done)
    case ch5R56 =>
      intro ds w' hS K hK
      have hc := (bcell hS).1
      have hf := (bcell hS).2
      have hz := hS.size
      try simp at hz
      go_simp
      try go_bits
      first
        | exact hK _ hS (Gr.refl _)
        | exact hK _ (by repeat (first | (with_reducible exact Below.refl _ _) | (with_reducible assumption) | ((with_reducible refine Below.setCell ?_ ?_ _); rotate_left; · (first | exact Nat.le_refl _ | (simp; done) | (simp; omega) | omega)) | ((with_reducible refine Below.alloc ?_ ?_ _); rotate_left; · (first | exact Nat.le_refl _ | (simp; done) | (simp; omega) | omega)) | (with_reducible apply Below.drew) | (with_reducible apply below_drewN') | (refine Below.trans ?_ (Below.mono (by assumption) (by first | exact Nat.le_refl _ | (simp; done) | (simp; omega) | omega))) | exact Below.refl _ _ | assumption)) (by repeat (first | (with_reducible exact Below.refl _ _) | (with_reducible assumption) | ((with_reducible refine Below.setCell ?_ ?_ _); rotate_left; · (first | exact Nat.le_refl _ | (simp; done) | (simp; omega) | omega)) | ((with_reducible refine Below.alloc ?_ ?_ _); rotate_left; · (first | exact Nat.le_refl _ | (simp; done) | (simp; omega) | omega)) | (with_reducible apply Below.drew) | (with_reducible apply below_drewN') | (refine Below.trans ?_ (Below.mono (by assumption) (by first | exact Nat.le_refl _ | (simp; done) | (simp; omega) | omega))) | exact Below.refl _ _ | assumption))
    case ca5R56 => (first | (simp [Act.put]; done) | (simp [Act.put, *]; done))
    try dsimp only
    refine wpW_det (t' := ?ct6R56) 6 (by rfl) (by kernel_rfl) (NQ_free _) (by kernel_rfl) ?cw6R56 ?ch6R56 ?ca6R56 (Eq.refl _) ?cH6R56
    case cw6R56 => (go_simp; done)
    case ch6R56 =>
      intro ds w' hS K hK
      have hc := (bcell hS).1
      have hf := (bcell hS).2
      have hz := hS.size
      try simp at hz
      go_simp
      try go_bits
      first
        | exact hK _ hS (Gr.refl _)
        | exact hK _ (by repeat (first | (with_reducible exact Below.refl _ _) | (with_reducible assumption) | ((with_reducible refine Below.setCell ?_ ?_ _); rotate_left; · (first | exact Nat.le_refl _ | (simp; done) | (simp; omega) | omega)) | ((with_reducible refine Below.alloc ?_ ?_ _); rotate_left; · (first | exact Nat.le_refl _ | (simp; done) | (simp; omega) | omega)) | (with_reducible apply Below.drew) | (with_reducible apply below_drewN') | (refine Below.trans ?_ (Below.mono (by assumption) (by first | exact Nat.le_refl _ | (simp; done) | (simp; omega) | omega))) | exact Below.refl _ _ | assumption)) (by repeat (first | (with_reducible exact Below.refl _ _) | (with_reducible assumption) | ((with_reducible refine Below.setCell ?_ ?_ _); rotate_left; · (first | exact Nat.le_refl _ | (simp; done) | (simp; omega) | omega)) | ((with_reducible refine Below.alloc ?_ ?_ _); rotate_left; · (first | exact Nat.le_refl _ | (simp; done) | (simp; omega) | omega)) | (with_reducible apply Below.drew) | (with_reducible apply below_drewN') | (refine Below.trans ?_ (Below.mono (by assumption) (by first | exact Nat.le_refl _ | (simp; done) | (simp; omega) | omega))) | exact Below.refl _ _ | assumption))
    case ca6R56 => (first | (simp [Act.put]; done) | (simp [Act.put, *]; done))
    try dsimp only
    refine wpW_det (t' := ?ct7R56) 7 (by rfl) (by kernel_rfl) (NQ_free _) (by kernel_rfl) ?cw7R56 ?ch7R56 ?ca7R56 (Eq.refl _) ?cH7R56
    case cw7R56 => (go_simp; done)
    case ch7R56 =>
      intro ds w' hS K hK
      have hc := (bcell hS).1
      have hf := (bcell hS).2
      have hz := hS.size
      try simp at hz
      go_simp
      try go_bits
      first
        | exact hK _ hS (Gr.refl _)
        | exact hK _ (by repeat (first | (with_reducible exact Below.refl _ _) | (with_reducible assumption) | ((with_reducible refine Below.setCell ?_ ?_ _); rotate_left; · (first | exact Nat.le_refl _ | (simp; done) | (simp; omega) | omega)) | ((with_reducible refine Below.alloc ?_ ?_ _); rotate_left; · (first | exact Nat.le_refl _ | (simp; done) | (simp; omega) | omega)) | (with_reducible apply Below.drew) | (with_reducible apply below_drewN') | (refine Below.trans ?_ (Below.mono (by assumption) (by first | exact Nat.le_refl _ | (simp; done) | (simp; omega) | omega))) | exact Below.refl _ _ | assumption)) (by repeat (first | (with_reducible exact Below.refl _ _) | (with_reducible assumption) | ((with_reducible refine Below.setCell ?_ ?_ _); rotate_left; · (first | exact Nat.le_refl _ | (simp; done) | (simp; omega) | omega)) | ((with_reducible refine Below.alloc ?_ ?_ _); rotate_left; · (first | exact Nat.le_refl _ | (simp; done) | (simp; omega) | omega)) | (with_reducible apply Below.drew) | (with_reducible apply below_drewN') | (refine Below.trans ?_ (Below.mono (by assumption) (by first | exact Nat.le_refl _ | (simp; done) | (simp; omega) | omega))) | exact Below.refl _ _ | assumption))
    case ca7R56 => (first | (simp [Act.put]; done) | (simp [Act.put, *]; done))
    try dsimp only
    refine wpW_det (t' := ?ct8R56) 8 (by rfl) (by kernel_rfl) (NQ_free _) (by kernel_rfl) ?cw8R56 ?ch8R56 ?ca8R56 (Eq.refl _) ?cH8R56
    case cw8R56 => (go_simp; done)
    case ch8R56 =>
      intro ds w' hS K hK
      have hc := (bcell hS).1
      have hf := (bcell hS).2
      have hz := hS.size
      try simp at hz
      go_simp
      try go_bits
      first
        | exact hK _ hS (Gr.refl _)
        | exact hK _ (by repeat (first | (with_reducible exact Below.refl _ _) | (with_reducible assumption) | ((with_reducible refine Below.setCell ?_ ?_ _); rotate_left; · (first | exact Nat.le_refl _ | (simp; done) | (simp; omega) | omega)) | ((with_reducible refine Below.alloc ?_ ?_ _); rotate_left; · (first | exact Nat.le_refl _ | (simp; done) | (simp; omega) | omega)) | (with_reducible apply Below.drew) | (with_reducible apply below_drewN') | (refine Below.trans ?_ (Below.mono (by assumption) (by first | exact Nat.le_refl _ | (simp; done) | (simp; omega) | omega))) | exact Below.refl _ _ | assumption)) (by repeat (first | (with_reducible exact Below.refl _ _) | (with_reducible assumption) | ((with_reducible refine Below.setCell ?_ ?_ _); rotate_left; · (first | exact Nat.le_refl _ | (simp; done) | (simp; omega) | omega)) | ((with_reducible refine Below.alloc ?_ ?_ _); rotate_left; · (first | exact Nat.le_refl _ | (simp; done) | (simp; omega) | omega)) | (with_reducible apply Below.drew) | (with_reducible apply below_drewN') | (refine Below.trans ?_ (Below.mono (by assumption) (by first | exact Nat.le_refl _ | (simp; done) | (simp; omega) | omega))) | exact Below.refl _ _ | assumption))
    case ca8R56 => (first | (simp [Act.put]; done) | (simp [Act.put, *]; done))
    try dsimp only
    refine wpW_end (by kernel_rfl) ?_
    intro w5 hg hS
    unfold NQ
    dsimp only
    obtain ⟨hdl, hdq⟩ := res_short hresG
    have HRG := Lib.hid hresG
    clear hresG
    have hG5 := hG.below hg (Nat.le_refl _)
    have hw25 := Below.size hg
    replace b3 := b3.gr hS
    replace hBB := hBB.trans (hS.mono (Below.size hBB))
    clear HL hg hS hG l_b3 c0 c1 c2 c3 f3
    obtain ⟨BG, hBG⟩ : ∃ B, ws2.heap.size = B := ⟨_, rfl⟩
    rw [hBG] at hG5 hw25
    clear hBG
    have l_b3 := b3.lt
    obtain ⟨c0, c1, c2, c3, f3⟩ := blk4r b3
    have HGN : Hid (∀ w', Below w5.heap.size w5 w' → RwOk Ds AG BG w') := Lib.hid (fun w' h => hG5.below h hw25)
    go_wp2_with fail
    refine (refCheckMarks_any l A c w.heap.size _ (hl.below hBB (Nat.le_refl _)) (Below.size hBB)).mono ?_
    rw [HE1.out, HE2.out]
    rintro e w6 ⟨rfl, hB6⟩
    clear l_b3 c0 c1 c2 c3 f3
    have hBx := hB6
    replace b3 := b3.gr hB6
    replace hBB := hBB.trans (hB6.mono (Below.size hBB))
    clear hB6
    have l_b3 := b3.lt
    obtain ⟨c0, c1, c2, c3, f3⟩ := blk4r b3
    go_wp2_with fail
    refine (refCheckRule_any r HRN.out HRD.out _).mono ?_
    rw [HER.out]
    rintro e w7 ⟨rfl, hB7⟩
    clear l_b3 c0 c1 c2 c3 f3
    replace hBx := hBx.trans (hB7.mono (Below.size hBx))
    replace b3 := b3.gr hB7
    replace hBB := hBB.trans (hB7.mono (Below.size hBB))
    clear hB7
    have l_b3 := b3.lt
    obtain ⟨c0, c1, c2, c3, f3⟩ := blk4r b3
    go_wp2_with fail
    refine (refGrouped_any l A c w.heap.size r _ (hl.below hBB (Nat.le_refl _)) (Below.size hBB) h20 hms hrs).mono ?_
    rintro e w8 ⟨vR, D, rfl, hres, ownR, eachR, hB8⟩
    obtain ⟨AR, cR, rfl, hRR⟩ := own_rws ownR eachR
    have hx5 := Below.size hBx
    replace hBx := hBx.trans (hB8.mono (Below.size hBx))
    replace hBB := hBB.trans (hB8.mono (Below.size hBB))
    obtain ⟨hdl2, hdq2⟩ := res_short hres
    have hww := Below.size hBx
    have HEQ : Hid (decide ((lsV Ds).map (·.2) = (lsV D).map (·.2)) = true) := Lib.hid (decide_eq_true (by rw [lsV_snd, lsV_snd]; exact HRG.out.eq hres))
    have hGs := (HGN.out w8 hBx).more (show BG ≤ w8.heap.size by omega)
    obtain ⟨l1, l2⟩ := hGs.lists (fun q hq => by have := hdq q hq; omega)
    obtain ⟨l3, l4⟩ := hRR.lists (fun q hq => by have := hdq2 q hq; omega)
    have hls := lists_any (lsV Ds) (lsV D) AG AR cG cR w8.heap.size w8 l1 l3 l2 l4 (by simp only [lsV, List.length_map]; omega) (by simp only [lsV, List.length_map]; omega) (Nat.le_refl _)
    rw [HEQ.out, show (lsV Ds).length = Ds.length by simp [lsV], show (lsV D).length = D.length by simp [lsV]] at hls
    clear l_b3 c0 c1 c2 c3 f3
    clear ownR eachR hB8 l1 l2 l3 l4 hGs hRR hdq hdq2 b3
    go_wp2_with fail
    refine hls.mono ?_
    rintro e w9 ⟨rfl, hB9⟩
    replace hBB := hBB.trans (hB9.mono (Below.size hBB))
    go_wp2
    go_ret
    exact ⟨by first | rfl | (simp; done), hBB⟩
  · have HGZ := Lib.hid hG
    obtain ⟨G, hGG⟩ : ∃ G, groupedE l r = G := ⟨_, rfl⟩
    have HGG := Lib.hid hGG
    rw [hGG] at HG0
    have hG0 : G ≠ 0 := by rw [← hGG]; exact hG
    clear hG hGG
    go_upto_region 5 with fail
    refine wp_region_w (Gr _) (by kernel_rfl) (Below.refl _ _).drew ?_
    refine wpW_det (t' := ?ct0R57) 0 (by rfl) (by kernel_rfl) (NQ_free _) (by kernel_rfl) ?cw0R57 ?ch0R57 ?ca0R57 (Eq.refl _) ?cH0R57
    case cw0R57 => (go_simp; done)
    case ch0R57 =>
      intro ds w' hS K hK
      have hc := (bcell hS).1
      have hf := (bcell hS).2
      have hz := hS.size
      try simp at hz
      go_simp
      try go_bits
      first
        | exact hK _ hS (Gr.refl _)
        | exact hK _ (by repeat (first | (with_reducible exact Below.refl _ _) | (with_reducible assumption) | ((with_reducible refine Below.setCell ?_ ?_ _); rotate_left; · (first | exact Nat.le_refl _ | (simp; done) | (simp; omega) | omega)) | ((with_reducible refine Below.alloc ?_ ?_ _); rotate_left; · (first | exact Nat.le_refl _ | (simp; done) | (simp; omega) | omega)) | (with_reducible apply Below.drew) | (with_reducible apply below_drewN') | (refine Below.trans ?_ (Below.mono (by assumption) (by first | exact Nat.le_refl _ | (simp; done) | (simp; omega) | omega))) | exact Below.refl _ _ | assumption)) (by repeat (first | (with_reducible exact Below.refl _ _) | (with_reducible assumption) | ((with_reducible refine Below.setCell ?_ ?_ _); rotate_left; · (first | exact Nat.le_refl _ | (simp; done) | (simp; omega) | omega)) | ((with_reducible refine Below.alloc ?_ ?_ _); rotate_left; · (first | exact Nat.le_refl _ | (simp; done) | (simp; omega) | omega)) | (with_reducible apply Below.drew) | (with_reducible apply below_drewN') | (refine Below.trans ?_ (Below.mono (by assumption) (by first | exact Nat.le_refl _ | (simp; done) | (simp; omega) | omega))) | exact Below.refl _ _ | assumption))
    case ca0R57 => (first | (simp [Act.put]; done) | (simp [Act.put, *]; done))
    try dsimp only
    refine wpW_det (t' := ?ct2R57) 2 (by rfl) (by kernel_rfl) (NQ_free _) (by kernel_rfl) ?cw2R57 ?ch2R57 ?ca2R57 (Eq.refl _) ?cH2R57
    case cw2R57 => (go_simp; done)
    case ch2R57 =>
      intro ds w' hS K hK
      have hc := (bcell hS).1
      have hf := (bcell hS).2
      have hz := hS.size
      try simp at hz
      go_simp
      try go_bits
      first
        | exact hK _ hS (Gr.refl _)
        | exact hK _ (by repeat (first | (with_reducible exact Below.refl _ _) | (with_reducible assumption) | ((with_reducible refine Below.setCell ?_ ?_ _); rotate_left; · (first | exact Nat.le_refl _ | (simp; done) | (simp; omega) | omega)) | ((with_reducible refine Below.alloc ?_ ?_ _); rotate_left; · (first | exact Nat.le_refl _ | (simp; done) | (simp; omega) | omega)) | (with_reducible apply Below.drew) | (with_reducible apply below_drewN') | (refine Below.trans ?_ (Below.mono (by assumption) (by first | exact Nat.le_refl _ | (simp; done) | (simp; omega) | omega))) | exact Below.refl _ _ | assumption)) (by repeat (first | (with_reducible exact Below.refl _ _) | (with_reducible assumption) | ((with_reducible refine Below.setCell ?_ ?_ _); rotate_left; · (first | exact Nat.le_refl _ | (simp; done) | (simp; omega) | omega)) | ((with_reducible refine Below.alloc ?_ ?_ _); rotate_left; · (first | exact Nat.le_refl _ | (simp; done) | (simp; omega) | omega)) | (with_reducible apply Below.drew) | (with_reducible apply below_drewN') | (refine Below.trans ?_ (Below.mono (by assumption) (by first | exact Nat.le_refl _ | (simp; done) | (simp; omega) | omega))) | exact Below.refl _ _ | assumption))
    case ca2R57 => (first | (simp [Act.put]; done) | (simp [Act.put, *]; done))
    try dsimp only
    refine wpW_branch [1] (by kernel_rfl) (by simp) ?_
    intro v1 hg_v1 hS_v1
    refine each_cons ?_ each_nil
    refine wpOp_go (by rfl) (Eq.refl _) (by go_simp; done) ?_
    intro K hK
    go_simp
    try simp only [Act.put]
    refine (copyMarks_any l A c w.heap.size _ (HL.out _ hS_v1) hc (by have := Below.size hS_v1; omega) HA.out).mono ?_
    rintro e ws1 ⟨v3, rfl, own3, hBs⟩
    obtain ⟨Am, cm, rfl, hl3, hc3⟩ := copied own3 (by omega) HSZ.out
    refine hK _ _ (Below.trans hS_v1 (hBs.mono (Below.size hS_v1))) ?_
    clear hK K own3 hBs
    refine wpW_branch [3] (by kernel_rfl) (by simp) ?_
    intro v2 hg_v2 hS_v2
    refine each_cons ?_ each_nil
    refine wpOp_go (by rfl) (Eq.refl _) (by go_simp; done) ?_
    intro K hK
    go_simp
    try simp only [Act.put]
    refine (grouped_bad l Am cm _ r _ (hl3.below hg_v2 (Nat.le_refl _)) hc3 (Below.size hg_v2) HRN.out HRD.out HGZ.out).mono ?_
    rw [HGG.out]
    rintro e ws2 ⟨rfl, hBs⟩
    refine hK _ _ (Below.trans hS_v2 (hBs.mono (Below.size hS_v2))) ?_
    clear hK K hBs hl3
    refine wpW_det (t' := ?ct4R58) 4 (by rfl) (by kernel_rfl) (NQ_free _) (by kernel_rfl) ?cw4R58 ?ch4R58 ?ca4R58 (Eq.refl _) ?cH4R58
    case cw4R58 => (go_simp; done)
    case ch4R58 =>
      intro ds w' hS K hK
      have hc := (bcell hS).1
      have hf := (bcell hS).2
      have hz := hS.size
      try simp at hz
      go_simp
      try go_bits
      first
        | exact hK _ hS (Gr.refl _)
        | exact hK _ (by repeat (first | (with_reducible exact Below.refl _ _) | (with_reducible assumption) | ((with_reducible refine Below.setCell ?_ ?_ _); rotate_left; · (first | exact Nat.le_refl _ | (simp; done) | (simp; omega) | omega)) | ((with_reducible refine Below.alloc ?_ ?_ _); rotate_left; · (first | exact Nat.le_refl _ | (simp; done) | (simp; omega) | omega)) | (with_reducible apply Below.drew) | (with_reducible apply below_drewN') | (refine Below.trans ?_ (Below.mono (by assumption) (by first | exact Nat.le_refl _ | (simp; done) | (simp; omega) | omega))) | exact Below.refl _ _ | assumption)) (by repeat (first | (with_reducible exact Below.refl _ _) | (with_reducible assumption) | ((with_reducible refine Below.setCell ?_ ?_ _); rotate_left; · (first | exact Nat.le_refl _ | (simp; done) | (simp; omega) | omega)) | ((with_reducible refine Below.alloc ?_ ?_ _); rotate_left; · (first | exact Nat.le_refl _ | (simp; done) | (simp; omega) | omega)) | (with_reducible apply Below.drew) | (with_reducible apply below_drewN') | (refine Below.trans ?_ (Below.mono (by assumption) (by first | exact Nat.le_refl _ | (simp; done) | (simp; omega) | omega))) | exact Below.refl _ _ | assumption))
    case ca4R58 => (first | (simp [Act.put]; done) | (simp [Act.put, *]; done))
    try dsimp only
    refine wpW_det (t' := ?ct5R58) 5 (by rfl) (by kernel_rfl) (NQ_free _) (by kernel_rfl) ?cw5R58 ?ch5R58 ?ca5R58 (Eq.refl _) ?cH5R58
    case cw5R58 => (go_simp; done)
    case ch5R58 =>
      intro ds w' hS K hK
      have hc := (bcell hS).1
      have hf := (bcell hS).2
      have hz := hS.size
      try simp at hz
      go_simp
      try go_bits
      first
        | exact hK _ hS (Gr.refl _)
        | exact hK _ (by repeat (first | (with_reducible exact Below.refl _ _) | (with_reducible assumption) | ((with_reducible refine Below.setCell ?_ ?_ _); rotate_left; · (first | exact Nat.le_refl _ | (simp; done) | (simp; omega) | omega)) | ((with_reducible refine Below.alloc ?_ ?_ _); rotate_left; · (first | exact Nat.le_refl _ | (simp; done) | (simp; omega) | omega)) | (with_reducible apply Below.drew) | (with_reducible apply below_drewN') | (refine Below.trans ?_ (Below.mono (by assumption) (by first | exact Nat.le_refl _ | (simp; done) | (simp; omega) | omega))) | exact Below.refl _ _ | assumption)) (by repeat (first | (with_reducible exact Below.refl _ _) | (with_reducible assumption) | ((with_reducible refine Below.setCell ?_ ?_ _); rotate_left; · (first | exact Nat.le_refl _ | (simp; done) | (simp; omega) | omega)) | ((with_reducible refine Below.alloc ?_ ?_ _); rotate_left; · (first | exact Nat.le_refl _ | (simp; done) | (simp; omega) | omega)) | (with_reducible apply Below.drew) | (with_reducible apply below_drewN') | (refine Below.trans ?_ (Below.mono (by assumption) (by first | exact Nat.le_refl _ | (simp; done) | (simp; omega) | omega))) | exact Below.refl _ _ | assumption))
    case ca5R58 => (first | (simp [Act.put]; done) | (simp [Act.put, *]; done))
    try dsimp only
    refine wpW_det (t' := ?ct6R58) 6 (by rfl) (by kernel_rfl) (NQ_free _) (by kernel_rfl) ?cw6R58 ?ch6R58 ?ca6R58 (Eq.refl _) ?cH6R58
    case cw6R58 => (go_simp; done)
    case ch6R58 =>
      intro ds w' hS K hK
      have hc := (bcell hS).1
      have hf := (bcell hS).2
      have hz := hS.size
      try simp at hz
      go_simp
      try go_bits
      first
        | exact hK _ hS (Gr.refl _)
        | exact hK _ (by repeat (first | (with_reducible exact Below.refl _ _) | (with_reducible assumption) | ((with_reducible refine Below.setCell ?_ ?_ _); rotate_left; · (first | exact Nat.le_refl _ | (simp; done) | (simp; omega) | omega)) | ((with_reducible refine Below.alloc ?_ ?_ _); rotate_left; · (first | exact Nat.le_refl _ | (simp; done) | (simp; omega) | omega)) | (with_reducible apply Below.drew) | (with_reducible apply below_drewN') | (refine Below.trans ?_ (Below.mono (by assumption) (by first | exact Nat.le_refl _ | (simp; done) | (simp; omega) | omega))) | exact Below.refl _ _ | assumption)) (by repeat (first | (with_reducible exact Below.refl _ _) | (with_reducible assumption) | ((with_reducible refine Below.setCell ?_ ?_ _); rotate_left; · (first | exact Nat.le_refl _ | (simp; done) | (simp; omega) | omega)) | ((with_reducible refine Below.alloc ?_ ?_ _); rotate_left; · (first | exact Nat.le_refl _ | (simp; done) | (simp; omega) | omega)) | (with_reducible apply Below.drew) | (with_reducible apply below_drewN') | (refine Below.trans ?_ (Below.mono (by assumption) (by first | exact Nat.le_refl _ | (simp; done) | (simp; omega) | omega))) | exact Below.refl _ _ | assumption))
    case ca6R58 => (first | (simp [Act.put]; done) | (simp [Act.put, *]; done))
    try dsimp only
    refine wpW_det (t' := ?ct7R58) 7 (by rfl) (by kernel_rfl) (NQ_free _) (by kernel_rfl) ?cw7R58 ?ch7R58 ?ca7R58 (Eq.refl _) ?cH7R58
    case cw7R58 => (go_simp; done)
    case ch7R58 =>
      intro ds w' hS K hK
      have hc := (bcell hS).1
      have hf := (bcell hS).2
      have hz := hS.size
      try simp at hz
      go_simp
      try go_bits
      first
        | exact hK _ hS (Gr.refl _)
        | exact hK _ (by repeat (first | (with_reducible exact Below.refl _ _) | (with_reducible assumption) | ((with_reducible refine Below.setCell ?_ ?_ _); rotate_left; · (first | exact Nat.le_refl _ | (simp; done) | (simp; omega) | omega)) | ((with_reducible refine Below.alloc ?_ ?_ _); rotate_left; · (first | exact Nat.le_refl _ | (simp; done) | (simp; omega) | omega)) | (with_reducible apply Below.drew) | (with_reducible apply below_drewN') | (refine Below.trans ?_ (Below.mono (by assumption) (by first | exact Nat.le_refl _ | (simp; done) | (simp; omega) | omega))) | exact Below.refl _ _ | assumption)) (by repeat (first | (with_reducible exact Below.refl _ _) | (with_reducible assumption) | ((with_reducible refine Below.setCell ?_ ?_ _); rotate_left; · (first | exact Nat.le_refl _ | (simp; done) | (simp; omega) | omega)) | ((with_reducible refine Below.alloc ?_ ?_ _); rotate_left; · (first | exact Nat.le_refl _ | (simp; done) | (simp; omega) | omega)) | (with_reducible apply Below.drew) | (with_reducible apply below_drewN') | (refine Below.trans ?_ (Below.mono (by assumption) (by first | exact Nat.le_refl _ | (simp; done) | (simp; omega) | omega))) | exact Below.refl _ _ | assumption))
    case ca7R58 => (first | (simp [Act.put]; done) | (simp [Act.put, *]; done))
    try dsimp only
    refine wpW_det (t' := ?ct8R58) 8 (by rfl) (by kernel_rfl) (NQ_free _) (by kernel_rfl) ?cw8R58 ?ch8R58 ?ca8R58 (Eq.refl _) ?cH8R58
    case cw8R58 => (go_simp; done)
    case ch8R58 =>
      intro ds w' hS K hK
      have hc := (bcell hS).1
      have hf := (bcell hS).2
      have hz := hS.size
      try simp at hz
      go_simp
      try go_bits
      first
        | exact hK _ hS (Gr.refl _)
        | exact hK _ (by repeat (first | (with_reducible exact Below.refl _ _) | (with_reducible assumption) | ((with_reducible refine Below.setCell ?_ ?_ _); rotate_left; · (first | exact Nat.le_refl _ | (simp; done) | (simp; omega) | omega)) | ((with_reducible refine Below.alloc ?_ ?_ _); rotate_left; · (first | exact Nat.le_refl _ | (simp; done) | (simp; omega) | omega)) | (with_reducible apply Below.drew) | (with_reducible apply below_drewN') | (refine Below.trans ?_ (Below.mono (by assumption) (by first | exact Nat.le_refl _ | (simp; done) | (simp; omega) | omega))) | exact Below.refl _ _ | assumption)) (by repeat (first | (with_reducible exact Below.refl _ _) | (with_reducible assumption) | ((with_reducible refine Below.setCell ?_ ?_ _); rotate_left; · (first | exact Nat.le_refl _ | (simp; done) | (simp; omega) | omega)) | ((with_reducible refine Below.alloc ?_ ?_ _); rotate_left; · (first | exact Nat.le_refl _ | (simp; done) | (simp; omega) | omega)) | (with_reducible apply Below.drew) | (with_reducible apply below_drewN') | (refine Below.trans ?_ (Below.mono (by assumption) (by first | exact Nat.le_refl _ | (simp; done) | (simp; omega) | omega))) | exact Below.refl _ _ | assumption))
    case ca8R58 => (first | (simp [Act.put]; done) | (simp [Act.put, *]; done))
    try dsimp only
    refine wpW_end (by kernel_rfl) ?_
    intro w5 hg hS
    unfold NQ
    dsimp only
    clear l_b3 c0 c1 c2 c3 f3
    replace b3 := b3.gr hS
    replace hBB := hBB.trans (hS.mono (Below.size hBB))
    clear HL hg hS
    have l_b3 := b3.lt
    obtain ⟨c0, c1, c2, c3, f3⟩ := blk4r b3
    go_wp2_with fail
    refine (refCheckMarks_any l A c w.heap.size _ (hl.below hBB (Nat.le_refl _)) (Below.size hBB)).mono ?_
    rw [HE1.out, HE2.out]
    rintro e wc2 ⟨rfl, hBc2⟩
    replace b3 := b3.gr hBc2
    replace hBB := hBB.trans (Below.mono hBc2 (Below.size hBB))
    clear hBc2
    clear l_b3 c0 c1 c2 c3 f3
    have l_b3 := b3.lt
    obtain ⟨c0, c1, c2, c3, f3⟩ := blk4r b3
    have hg1 : (G != 0) = true := by simpa using hG0
    by_cases h0 : E2 = 0
    · subst h0
      have hX : G = ER := by rw [HG0.out]; rfl
      subst hX
      go_wp2_with fail
      refine (refCheckRule_any r HRN.out HRD.out _).mono ?_
      rw [HER.out]
      rintro e wc3 ⟨rfl, hBc3⟩
      replace b3 := b3.gr hBc3
      replace hBB := hBB.trans (Below.mono hBc3 (Below.size hBB))
      clear hBc3
      clear l_b3 c0 c1 c2 c3 f3
      have l_b3 := b3.lt
      obtain ⟨c0, c1, c2, c3, f3⟩ := blk4r b3
      go_wp2
      go_ret
      exact ⟨by first | rfl | (simp; done), hBB⟩
    · have hX : G = E2 := by rw [HG0.out, if_neg h0]
      subst hX
      have hg2 : (G == 0) = false := by simpa using hG0
      go_wp2
      go_ret
      exact ⟨by first | rfl | (simp; done), hBB⟩
end Go.Proofs.YtidgeagpgllkeaaGreat
