/- The law FlawAnyOrder answers true. The law FlawAreas answers true. -/
import Derived.Test.YtidgeagpgllkeaaGreatZaFmB
import Derived.Test.YtidgeagpgllkeaaGreatZaFnO
namespace Go.Proofs.YtidgeagpgllkeaaGreat
open Go.RowKit

set_option maxRecDepth 100000 in
set_option maxHeartbeats 1000000 in
theorem refAskErr_any (level : Int) (corners : Bool) (w : World) : Calls Tryz.prog 21 #[.agg #[.int .i64 level, .bool corners]] w fun e w' => e = .returned (.int .i64 (levelE level)) ∧ Below w.heap.size w w' := by
  have b1 := Blk.new w 24 #[.int .i64 level, .bool corners]
  have hBB : Below w.heap.size w (w.alloc (.cells #[.int .i64 level, .bool corners] 24)) := (by repeat (first | (with_reducible exact Below.refl _ _) | (with_reducible assumption) | ((with_reducible refine Below.setCell ?_ ?_ _); rotate_left; · (first | exact Nat.le_refl _ | (simp; done) | (simp; omega) | omega)) | ((with_reducible refine Below.alloc ?_ ?_ _); rotate_left; · (first | exact Nat.le_refl _ | (simp; done) | (simp; omega) | omega)) | (with_reducible apply Below.drew) | (with_reducible apply below_drewN') | (refine Below.trans ?_ (Below.mono (by assumption) (by first | exact Nat.le_refl _ | (simp; done) | (simp; omega) | omega))) | exact Below.refl _ _ | assumption))
  obtain ⟨c0, c1, f1⟩ := blk2c b1
  have l1 := b1.lt
  have HE : Hid (levelE level = if wi level 0 1000000000 then 0 else 2) := Lib.hid rfl
  obtain ⟨D, hD⟩ : ∃ D, wi level 0 1000000000 = D := ⟨_, rfl⟩
  have HW := Lib.hid hD
  rw [hD] at HE
  clear hD
  go_enter Tryz.func21, Tryz.ntmps21
  cases D
  all_goals
    go_wp2_with (go_at_call 85; refine (isLevel_any _ _).mono ?_; rw [HW.out]; rintro e w1 ⟨rfl, rfl⟩)
    go_ret
    exact ⟨by rw [HE.out]; rfl, hBB⟩
theorem AreasA.same {g : Int → Int → Int} {level : Int} {corners : Bool} {P P' : List (Int × Int)} {As As' : List ArA} {A A' : Option Addr} {B B' : Nat} {W W' : World} (h : AreasA g level corners P As A B W) (h' : AreasA g level corners P' As' A' B' W') : As.map (·.2) = As'.map (·.2) := by
  obtain ⟨Bs, rfl, h1⟩ := h.ars
  obtain ⟨Cs, rfl, h2⟩ := h'.ars
  have e := h.pls.eq h'.pls
  subst e
  have e1 := h1.areas h.pls
  have e2 := h2.areas h.pls
  rw [List.map_map, List.map_map]
  exact e1.trans e2.symm
theorem ArsOk.more {g : Int → Int → Int} {As : List ArA} {A : Option Addr} {B B' : Nat} {w : World} (h : ArsOk g As A B w) (hB : B ≤ B') : ArsOk g As A B' w :=
  ⟨h.len, h.row.more hB, fun a ha => ⟨(h.each a ha).len, by obtain ⟨A, c, e, hr⟩ := (h.each a ha).row; exact ⟨A, c, e, hr.more hB⟩⟩⟩

end Go.Proofs.YtidgeagpgllkeaaGreat

namespace Go.Proofs.YtidgeagpgllkeaaGreat
open Go.RowKit

/-- What the area of a cell is. -/
def AtRes (g : Int → Int → Int) (level : Int) (corners : Bool) (r c : Int) (cs : List (Int × Int)) (p q v er : Int) : Prop :=
  (g r c < 0 ∧ cs = [] ∧ (p = 0 ∧ q = 0 ∧ v = 0) ∧ er = 6) ∨ (0 ≤ g r c ∧ g r c < level ∧ cs = [] ∧ (p = 0 ∧ q = 0 ∧ v = 0) ∧ er = 12) ∨
  ((0 ≤ g r c ∧ level ≤ g r c) ∧ (∀ P, Pls g level P → cs = compC g level corners P (r, c)) ∧ (p = (peakV g cs).1 ∧ q = (peakV g cs).2 ∧ v = g p q) ∧ er = 0)
theorem AtRes.uniq {g : Int → Int → Int} {level : Int} {corners : Bool} {r c : Int} {cs cs' : List (Int × Int)} {p q v er p' q' v' er' : Int} {P : List (Int × Int)} (hP : Pls g level P) (h : AtRes g level corners r c cs p q v er) (h' : AtRes g level corners r c cs' p' q' v' er') : cs = cs' ∧ (p = p' ∧ q = q' ∧ v = v') ∧ er = er' := by
  rcases h with ⟨h1, rfl, ⟨rfl, rfl, rfl⟩, rfl⟩ | ⟨h1, h2, rfl, ⟨rfl, rfl, rfl⟩, rfl⟩ | ⟨⟨h1, h2⟩, h3, ⟨h4, h5, h6⟩, rfl⟩
  · rcases h' with ⟨_, rfl, ⟨rfl, rfl, rfl⟩, rfl⟩ | ⟨k1, _⟩ | ⟨⟨k1, _⟩, _⟩
    · exact ⟨rfl, ⟨rfl, rfl, rfl⟩, rfl⟩
    · omega
    · omega
  · rcases h' with ⟨k1, _⟩ | ⟨_, _, rfl, ⟨rfl, rfl, rfl⟩, rfl⟩ | ⟨⟨_, k1⟩, _⟩
    · omega
    · exact ⟨rfl, ⟨rfl, rfl, rfl⟩, rfl⟩
    · omega
  · rcases h' with ⟨k1, _⟩ | ⟨_, k1, _⟩ | ⟨_, k3, ⟨k4, k5, k6⟩, rfl⟩
    · omega
    · omega
    · obtain rfl : cs = cs' := (h3 P hP).trans (k3 P hP).symm
      exact ⟨rfl, ⟨h4.trans k4.symm, h5.trans k5.symm, by rw [h6, k6, h4, h5, k4, k5]⟩, rfl⟩
theorem atRes_low {g : Int → Int → Int} {level : Int} {corners : Bool} {r c : Int} (h0 : 0 ≤ g r c) (h : g r c < level) : AtRes g level corners r c [] 0 0 0 12 := .inr (.inl ⟨h0, h, rfl, ⟨rfl, rfl, rfl⟩, rfl⟩)
theorem atRes_no {g : Int → Int → Int} {level : Int} {corners : Bool} {r c : Int} (h : g r c < 0) : AtRes g level corners r c [] 0 0 0 6 := .inl ⟨h, rfl, ⟨rfl, rfl, rfl⟩, rfl⟩
theorem own_set4 {W : World} {base n g : Nat} {v x0 x1 x2 x3 : Value} {xs : List Value} (h : W.ownsRow base 25 2 v n xs) (z : Blk W g 91 #[x0, x1, x2, x3]) (u0 u1 u2 u3 : Value) :
    ((((W.setCell ⟨g, 0, none⟩ u0).setCell ⟨g, 1, none⟩ u1).setCell ⟨g, 2, none⟩ u2).setCell ⟨g, 3, none⟩ u3).ownsRow base 25 2 v n xs := by
  have z0 : Blk (W.setCell ⟨g, 0, none⟩ u0) g 91 #[u0, x1, x2, x3] := z.set_ 0 u0
  have z1 : Blk ((W.setCell ⟨g, 0, none⟩ u0).setCell ⟨g, 1, none⟩ u1) g 91 #[u0, u1, x2, x3] := z0.set_ 1 u1
  have z2 : Blk (((W.setCell ⟨g, 0, none⟩ u0).setCell ⟨g, 1, none⟩ u1).setCell ⟨g, 2, none⟩ u2) g 91 #[u0, u1, u2, x3] := z1.set_ 2 u2
  have k0 := ownsRow_setCell_other h (a := ⟨g, 0, none⟩) (own_blk_ne h z (by decide)) u0
  have k1 := ownsRow_setCell_other k0 (a := ⟨g, 1, none⟩) (own_blk_ne k0 z0 (by decide)) u1
  have k2 := ownsRow_setCell_other k1 (a := ⟨g, 2, none⟩) (own_blk_ne k1 z1 (by decide)) u2
  have k3 := ownsRow_setCell_other k2 (a := ⟨g, 3, none⟩) (own_blk_ne k2 z2 (by decide)) u3
  exact k3
def AtR (l : List Sc) (level : Int) (corners : Bool) (r c : Int) (cs : List (Int × Int)) (p q v er : Int) : Prop :=
  (scanAskE l level ≠ 0 ∧ cs = [] ∧ (p = 0 ∧ q = 0 ∧ v = 0) ∧ er = scanAskE l level) ∨ (scanAskE l level = 0 ∧ AtRes (atV l) level corners r c cs p q v er)
theorem scanAskE_core {l L : List Sc} (h : L.map Sc.core = l.map Sc.core) (level : Int) : scanAskE L level = scanAskE l level := by unfold scanAskE; rw [scansE_core h]
theorem scanAsk_zero {l : List Sc} {level : Int} (h : scanAskE l level = 0) : (scansE l).2 = 0 ∧ levelE level = 0 := by
  have := (firstE_zero _).1 h
  exact ⟨this _ (by simp), this _ (by simp)⟩
theorem level_ok {level : Int} (h : levelE level = 0) : wi level 0 1000000000 = true := by
  unfold levelE unlessE at h
  cases hw : wi level 0 1000000000
  · rw [hw] at h; simp at h
  · rfl
/-- The area of a cell, of a copy of the scans. -/
theorem atCopy (l L : List Sc) (A : Option Addr) (cap B : Nat) (level : Int) (corners : Bool) (r c : Int) (w : World) (hc : L.map Sc.core = l.map Sc.core) (hl : ScOk L A B w) (hB : B ≤ w.heap.size) (hr : W64 r) (hcc : W64 c) :
    Calls Tryz.prog 62 #[.slice A L.length cap, .agg #[.int .i64 level, .bool corners], .agg #[.int .i64 r, .int .i64 c]] w fun e w' => ∃ (A' : Option Addr) (c' : Nat) (cs : List (Int × Int)) (p q v er : Int), e = .returned (.tuple #[.agg #[.slice A' cs.length c', .int .i64 p, .int .i64 q, .int .i64 v], .int .i64 er]) ∧ AtR l level corners r c cs p q v er ∧ w'.ownsRow 0 25 2 (.slice A' cs.length c') cs.length (cellsC cs) ∧ Below w.heap.size w w' := by
  have hE := scanAskE_core hc level
  by_cases he : scanAskE l level = 0
  case neg =>
    refine (areaAt_bad L A cap B level corners r c w hl hB (by rw [hE]; exact he)).mono ?_
    rintro e w' ⟨rfl, hB'⟩
    rw [hE]
    exact ⟨none, 0, [], 0, 0, 0, _, rfl, .inl ⟨he, rfl, ⟨rfl, rfl, rfl⟩, rfl⟩, World.ownsRow_nil _ _ _ _, hB'⟩
  have hg := (scansE_zero (scanAsk_zero he).1).2
  have hgL := core_good hc hg
  have hA := atV_core hc
  by_cases h0 : atV l r c < 0
  · refine (areaAt_no L A cap B level corners r c w hl hB (by rw [hE]; exact he) hr hcc (by rw [hA]; exact h0)).mono ?_
    rintro e w' ⟨rfl, hB'⟩
    exact ⟨none, 0, [], 0, 0, 0, _, rfl, .inr ⟨he, atRes_no h0⟩, World.ownsRow_nil _ _ _ _, hB'⟩
  by_cases h1 : atV l r c < level
  · refine (areaAt_low L A cap B level corners r c w hl hB (by rw [hE]; exact he) hr hcc (by rw [hA]; omega) (by rw [hA]; exact h1)).mono ?_
    rintro e w' ⟨rfl, hB'⟩
    exact ⟨none, 0, [], 0, 0, 0, _, rfl, .inr ⟨he, atRes_low (by omega) h1⟩, World.ownsRow_nil _ _ _ _, hB'⟩
  · refine (areaAt_ok L A cap B level corners r c w hl hB (by rw [hE]; exact he) (Lib.hid hgL) hr hcc (by rw [hA]; omega) (by rw [hA]; omega)).mono ?_
    rintro e w' ⟨v, cs, rfl, hao, hok, hB'⟩
    rw [hA] at hao ⊢
    obtain ⟨A', c', rfl, _, _, _⟩ := own_row2 hok
    refine ⟨A', c', cs, _, _, _, 0, rfl, .inr ⟨he, .inr (.inr ⟨⟨by omega, by omega⟩, fun P hP => comp_eq hP ((hP.mem (r, c)).2 ((abv_iff (atV l) r c level).2 ⟨by omega, by omega⟩)) (pair_bef hao.sorted hao.nodup) hao.mem, ⟨rfl, rfl, rfl⟩, rfl⟩)⟩, hok, hB'⟩
/-- The reference's area of a cell. -/
theorem refAtAny (l : List Sc) (A : Option Addr) (cap B : Nat) (level : Int) (corners : Bool) (r c : Int) (w : World) (hl : ScOk l A B w) (hB : B ≤ w.heap.size) (HG : Hid (∀ s ∈ l, ScGood s)) (hlv : 0 ≤ level) (hn : l.length ≤ 6) (hr : -1000000 ≤ r ∧ r ≤ 1000000) (hcc : -1000000 ≤ c ∧ c ≤ 1000000) :
    Calls Tryz.prog 64 #[.slice A l.length cap, .agg #[.int .i64 level, .bool corners], .agg #[.int .i64 r, .int .i64 c]] w fun e w' => ∃ (A' : Option Addr) (c' : Nat) (cs : List (Int × Int)) (p q v er : Int), e = .returned (.tuple #[.agg #[.slice A' cs.length c', .int .i64 p, .int .i64 q, .int .i64 v], .int .i64 er]) ∧ AtRes (atV l) level corners r c cs p q v er ∧ w'.ownsRow 0 25 2 (.slice A' cs.length c') cs.length (cellsC cs) ∧ Below w.heap.size w w' := by
  by_cases h0 : atV l r c < 0
  · refine (refAreaAt_no l A cap B level corners r c w hl hB HG hr hcc h0).mono ?_
    rintro e w' ⟨rfl, hB'⟩
    exact ⟨none, 0, [], 0, 0, 0, _, rfl, atRes_no h0, World.ownsRow_nil _ _ _ _, hB'⟩
  by_cases h1 : atV l r c < level
  · refine (refAreaAt_low l A cap B level corners r c w hl hB HG hr hcc (by omega) h1).mono ?_
    rintro e w' ⟨rfl, hB'⟩
    exact ⟨none, 0, [], 0, 0, 0, _, rfl, atRes_low (by omega) h1, World.ownsRow_nil _ _ _ _, hB'⟩
  · refine (refAreaAt_ok l A cap B level corners r c w hl hB HG hlv hn hr hcc (by omega) (by omega)).mono ?_
    rintro e w' ⟨v, cs, P, rfl, hP, hcs, hok, hB'⟩
    obtain ⟨A', c', rfl, _, _, _⟩ := own_row2 hok
    exact ⟨A', c', cs, _, _, _, 0, rfl, .inr (.inr ⟨⟨by omega, by omega⟩, fun P' hP' => by rw [hP'.eq hP]; exact hcs, ⟨rfl, rfl, rfl⟩, rfl⟩), hok, hB'⟩
/-- The areas, of a copy of the scans. -/
theorem areasAny (l L : List Sc) (A : Option Addr) (cap B : Nat) (level : Int) (corners : Bool) (w : World) (hc : L.map Sc.core = l.map Sc.core) (hl : ScOk L A B w) (hB : B ≤ w.heap.size) :
    Calls Tryz.prog 22 #[.slice A L.length cap, .agg #[.int .i64 level, .bool corners]] w fun e w' => ∃ (A' : Option Addr) (c' : Nat) (As : List ArA) (er : Int), e = .returned (.tuple #[.slice A' As.length c', .int .i64 er]) ∧ ((scanAskE l level ≠ 0 ∧ As = [] ∧ er = scanAskE l level) ∨ (scanAskE l level = 0 ∧ er = 0 ∧ ∃ P, AreasA (atV l) level corners P As A' w'.heap.size w')) ∧ Below w.heap.size w w' := by
  by_cases he : scanAskE l level = 0
  · have hz := scanAsk_zero he
    have hs := scansE_zero hz.1
    refine (areasCopy l L A cap B level corners w hc hl hB hs.2 hs.1 (level_ok hz.2)).mono ?_
    rintro e w' ⟨A', c', P, As, rfl, h, hB'⟩
    exact ⟨A', c', As, 0, rfl, .inr ⟨he, rfl, P, h⟩, hB'⟩
  · have hE := scanAskE_core hc level
    refine (areas_bad L A cap B level corners w hl hB (by rw [hE]; exact he)).mono ?_
    rintro e w' ⟨rfl, hB'⟩
    rw [hE]
    exact ⟨none, 0, [], _, rfl, .inl ⟨he, rfl, rfl⟩, hB'⟩

set_option maxRecDepth 100000 in
set_option maxHeartbeats 4000000 in
theorem arReg5 (l : List Sc) (A : Option Addr) (c B : Nat) (level : Int) (corners : Bool) {w : World} {q : Nat} (HL : Hid (∀ w', Below w.heap.size w w' → ScOk l A B w')) (hB : B ≤ w.heap.size) (hle : l.length ≤ c) (hl8 : l.length ≤ 8) (HNIL : Hid (A = none → c = 0)) (HD : Hid (∀ s ∈ l, s.data.length ≤ s.dcap ∧ (s.dA = none → s.dcap = 0))) (HSZ : Hid (∀ s ∈ l, s.data.length ≤ 1000000000))
    (b4 : Blk w q 24 #[.int .i64 level, .bool corners]) {t1 t2 t3 t5 t6 t7 t8 t9 t10 t11 t12 t13 t14 t15 t16 t17 t18 t19 t20 t21 t22 t23 t24 t25 t26 t27 t28 t29 t30 t31 t32 t33 t34 t35 t36 t37 t38 t39 t40 t41 t42 t43 t44 t45 t46 t47 t48 t49 t50 t51 t52 t53 t54 t55 t56 t57 t58 t59 t60 t61 t62 t63 t64 t65 t66 t67 t68 t69 t70 t71 t72 t73 t74 t75 t76 t77 t78 t79 t80 t81 t82 t83 t84 t85 t86 t87 t88 t89 t90 t91 t92 t93 t94 t95 t96 t97 t98 t99 t100 t101 : Value} {ds : List Deferred} (Q : Exit → Act → World → Prop)
    (h : ∀ (t32 t33 t34 t35 t36 t37 t38 : Value) (A' : Option Addr) (c' B' : Nat) (As : List ArA) (er : Int) (w' : World), ((scanAskE l level ≠ 0 ∧ As = [] ∧ er = scanAskE l level) ∨ (scanAskE l level = 0 ∧ er = 0 ∧ ∃ P, AreasA (atV l) level corners P As A' B' w')) → B' ≤ w'.heap.size → Below w.heap.size w w' → Q .normal ⟨#[.slice A l.length c, t1, t2, t3, .pointer (some ⟨q, 0, none⟩), t5, t6, .slice A' As.length c', .int .i64 er, t9, t10, t11, t12, t13, t14, t15, t16, t17, t18, t19, t20, t21, t22, t23, t24, t25, t26, t27, t28, t29, t30, t31, t32, t33, t34, t35, t36, t37, t38, t39, t40, t41, t42, t43, t44, t45, t46, t47, t48, t49, t50, t51, t52, t53, t54, t55, t56, t57, t58, t59, t60, t61, t62, t63, t64, t65, t66, t67, t68, t69, t70, t71, t72, t73, t74, t75, t76, t77, t78, t79, t80, t81, t82, t83, t84, t85, t86, t87, t88, t89, t90, t91, t92, t93, t94, t95, t96, t97, t98, t99, t100, t101], ds⟩ w') :
    (regOf Tryz.f13 5).wp Tryz.prog Q ⟨#[.slice A l.length c, t1, t2, t3, .pointer (some ⟨q, 0, none⟩), t5, t6, t7, t8, t9, t10, t11, t12, t13, t14, t15, t16, t17, t18, t19, t20, t21, t22, t23, t24, t25, t26, t27, t28, t29, t30, t31, t32, t33, t34, t35, t36, t37, t38, t39, t40, t41, t42, t43, t44, t45, t46, t47, t48, t49, t50, t51, t52, t53, t54, t55, t56, t57, t58, t59, t60, t61, t62, t63, t64, t65, t66, t67, t68, t69, t70, t71, t72, t73, t74, t75, t76, t77, t78, t79, t80, t81, t82, t83, t84, t85, t86, t87, t88, t89, t90, t91, t92, t93, t94, t95, t96, t97, t98, t99, t100, t101], ds⟩ w := by
  have H := Lib.hid h; clear h
  obtain ⟨c0, c1, f4⟩ := blk2c b4
  have l4 := b4.lt
  conv in (regOf _ _) => whnf
  refine wp_region_w (Gr _) (by kernel_rfl) (Below.refl _ _).drew ?_
  refine wpW_det (t' := ?ct0R1) 0 (by rfl) (by kernel_rfl) (NQ_free _) (by kernel_rfl) ?cw0R1 ?ch0R1 ?ca0R1 (Eq.refl _) ?cH0R1
  case cw0R1 => (go_simp; done)
  case ch0R1 =>
    intro ds w' hS K hK
    have hc := (bcell hS).1
    have hf := (bcell hS).2
    have hz := hS.size
    try simp at hz
    go_simp
    try go_bits
    first
      | exact hK _ hS (Gr.refl _)
      | exact hK _ (by repeat (first | (with_reducible exact Below.refl _ _) | (with_reducible assumption) | ((with_reducible refine Below.setCell ?_ ?_ _); rotate_left; · (first | exact Nat.le_refl _ | (simp; done) | (simp; omega) | omega)) | ((with_reducible refine Below.alloc ?_ ?_ _); rotate_left; · (first | exact Nat.le_refl _ | (simp; done) | (simp; omega) | omega)) | (with_reducible apply Below.drew) | (with_reducible apply below_drewN') | (refine Below.trans ?_ (Below.mono (by assumption) (by first | exact Nat.le_refl _ | (simp; done) | (simp; omega) | omega))) | exact Below.refl _ _ | assumption)) (by repeat (first | (with_reducible exact Below.refl _ _) | (with_reducible assumption) | ((with_reducible refine Below.setCell ?_ ?_ _); rotate_left; · (first | exact Nat.le_refl _ | (simp; done) | (simp; omega) | omega)) | ((with_reducible refine Below.alloc ?_ ?_ _); rotate_left; · (first | exact Nat.le_refl _ | (simp; done) | (simp; omega) | omega)) | (with_reducible apply Below.drew) | (with_reducible apply below_drewN') | (refine Below.trans ?_ (Below.mono (by assumption) (by first | exact Nat.le_refl _ | (simp; done) | (simp; omega) | omega))) | exact Below.refl _ _ | assumption))
  case ca0R1 => (first | (simp [Act.put]; done) | (simp [Act.put, *]; done))
  try dsimp only
  refine wpW_det (t' := ?ct2R1) 2 (by rfl) (by kernel_rfl) (NQ_free _) (by kernel_rfl) ?cw2R1 ?ch2R1 ?ca2R1 (Eq.refl _) ?cH2R1
  case cw2R1 => (go_simp; done)
  case ch2R1 =>
    intro ds w' hS K hK
    have hc := (bcell hS).1
    have hf := (bcell hS).2
    have hz := hS.size
    try simp at hz
    go_simp
    try go_bits
    first
      | exact hK _ hS (Gr.refl _)
      | exact hK _ (by repeat (first | (with_reducible exact Below.refl _ _) | (with_reducible assumption) | ((with_reducible refine Below.setCell ?_ ?_ _); rotate_left; · (first | exact Nat.le_refl _ | (simp; done) | (simp; omega) | omega)) | ((with_reducible refine Below.alloc ?_ ?_ _); rotate_left; · (first | exact Nat.le_refl _ | (simp; done) | (simp; omega) | omega)) | (with_reducible apply Below.drew) | (with_reducible apply below_drewN') | (refine Below.trans ?_ (Below.mono (by assumption) (by first | exact Nat.le_refl _ | (simp; done) | (simp; omega) | omega))) | exact Below.refl _ _ | assumption)) (by repeat (first | (with_reducible exact Below.refl _ _) | (with_reducible assumption) | ((with_reducible refine Below.setCell ?_ ?_ _); rotate_left; · (first | exact Nat.le_refl _ | (simp; done) | (simp; omega) | omega)) | ((with_reducible refine Below.alloc ?_ ?_ _); rotate_left; · (first | exact Nat.le_refl _ | (simp; done) | (simp; omega) | omega)) | (with_reducible apply Below.drew) | (with_reducible apply below_drewN') | (refine Below.trans ?_ (Below.mono (by assumption) (by first | exact Nat.le_refl _ | (simp; done) | (simp; omega) | omega))) | exact Below.refl _ _ | assumption))
  case ca2R1 => (first | (simp [Act.put]; done) | (simp [Act.put, *]; done))
  try dsimp only
  refine wpW_branch [1] (by kernel_rfl) (by simp) ?_
  intro v1 hg_v1 hS_v1
  refine each_cons ?_ each_nil
  refine wpOp_go (by rfl) (Eq.refl _) (by go_simp; done) ?_
  intro K hK
  go_simp
  try simp only [Act.put]
  refine (copyScans_any l A c B _ (HL.out _ hS_v1) hle (by have := Below.size hS_v1; omega) HNIL.out HD).mono ?_
  rintro e ws1 ⟨v2, L2, rfl, hc2, own2, each2, hBs⟩
  obtain ⟨A2, c2, rfl, hl2⟩ := copiedS hc2 own2 each2 (by omega) HSZ.out
  refine hK _ _ (Below.trans hS_v1 (hBs.mono (Below.size hS_v1))) ?_
  clear hK K own2 each2 hBs
  refine wpW_branch [3] (by kernel_rfl) (by simp) ?_
  intro v2 hg_v2 hS_v2
  refine each_cons ?_ each_nil
  refine wpOp_go (by rfl) (Eq.refl _) (by go_simp; done) ?_
  intro K hK
  go_simp
  try simp only [Act.put]
  refine (areasAny l L2 A2 c2 _ level corners _ hc2 (hl2.below hg_v2 (Nat.le_refl _)) (Below.size hg_v2)).mono ?_
  rintro e ws2 ⟨A', c', As, er, rfl, hA, hBs⟩
  refine hK _ _ (Below.trans hS_v2 (hBs.mono (Below.size hS_v2))) ?_
  clear hK K hBs hl2
  have HA := Lib.hid hA
  clear hA
  refine wpW_det (t' := ?ct4R2) 4 (by rfl) (by kernel_rfl) (NQ_free _) (by kernel_rfl) ?cw4R2 ?ch4R2 ?ca4R2 (Eq.refl _) ?cH4R2
  case cw4R2 => (go_simp; done)
  case ch4R2 =>
    intro ds w' hS K hK
    have hc := (bcell hS).1
    have hf := (bcell hS).2
    have hz := hS.size
    try simp at hz
    go_simp
    try go_bits
    first
      | exact hK _ hS (Gr.refl _)
      | exact hK _ (by repeat (first | (with_reducible exact Below.refl _ _) | (with_reducible assumption) | ((with_reducible refine Below.setCell ?_ ?_ _); rotate_left; · (first | exact Nat.le_refl _ | (simp; done) | (simp; omega) | omega)) | ((with_reducible refine Below.alloc ?_ ?_ _); rotate_left; · (first | exact Nat.le_refl _ | (simp; done) | (simp; omega) | omega)) | (with_reducible apply Below.drew) | (with_reducible apply below_drewN') | (refine Below.trans ?_ (Below.mono (by assumption) (by first | exact Nat.le_refl _ | (simp; done) | (simp; omega) | omega))) | exact Below.refl _ _ | assumption)) (by repeat (first | (with_reducible exact Below.refl _ _) | (with_reducible assumption) | ((with_reducible refine Below.setCell ?_ ?_ _); rotate_left; · (first | exact Nat.le_refl _ | (simp; done) | (simp; omega) | omega)) | ((with_reducible refine Below.alloc ?_ ?_ _); rotate_left; · (first | exact Nat.le_refl _ | (simp; done) | (simp; omega) | omega)) | (with_reducible apply Below.drew) | (with_reducible apply below_drewN') | (refine Below.trans ?_ (Below.mono (by assumption) (by first | exact Nat.le_refl _ | (simp; done) | (simp; omega) | omega))) | exact Below.refl _ _ | assumption))
  case ca4R2 => (first | (simp [Act.put]; done) | (simp [Act.put, *]; done))
  try dsimp only
  refine wpW_det (t' := ?ct5R2) 5 (by rfl) (by kernel_rfl) (NQ_free _) (by kernel_rfl) ?cw5R2 ?ch5R2 ?ca5R2 (Eq.refl _) ?cH5R2
  case cw5R2 => (go_simp; done)
  case ch5R2 =>
    intro ds w' hS K hK
    have hc := (bcell hS).1
    have hf := (bcell hS).2
    have hz := hS.size
    try simp at hz
    go_simp
    try go_bits
    first
      | exact hK _ hS (Gr.refl _)
      | exact hK _ (by repeat (first | (with_reducible exact Below.refl _ _) | (with_reducible assumption) | ((with_reducible refine Below.setCell ?_ ?_ _); rotate_left; · (first | exact Nat.le_refl _ | (simp; done) | (simp; omega) | omega)) | ((with_reducible refine Below.alloc ?_ ?_ _); rotate_left; · (first | exact Nat.le_refl _ | (simp; done) | (simp; omega) | omega)) | (with_reducible apply Below.drew) | (with_reducible apply below_drewN') | (refine Below.trans ?_ (Below.mono (by assumption) (by first | exact Nat.le_refl _ | (simp; done) | (simp; omega) | omega))) | exact Below.refl _ _ | assumption)) (by repeat (first | (with_reducible exact Below.refl _ _) | (with_reducible assumption) | ((with_reducible refine Below.setCell ?_ ?_ _); rotate_left; · (first | exact Nat.le_refl _ | (simp; done) | (simp; omega) | omega)) | ((with_reducible refine Below.alloc ?_ ?_ _); rotate_left; · (first | exact Nat.le_refl _ | (simp; done) | (simp; omega) | omega)) | (with_reducible apply Below.drew) | (with_reducible apply below_drewN') | (refine Below.trans ?_ (Below.mono (by assumption) (by first | exact Nat.le_refl _ | (simp; done) | (simp; omega) | omega))) | exact Below.refl _ _ | assumption))
  case ca5R2 => (first | (simp [Act.put]; done) | (simp [Act.put, *]; done))
  try dsimp only
  refine wpW_det (t' := ?ct6R2) 6 (by rfl) (by kernel_rfl) (NQ_free _) (by kernel_rfl) ?cw6R2 ?ch6R2 ?ca6R2 (Eq.refl _) ?cH6R2
  case cw6R2 => (go_simp; done)
  case ch6R2 =>
    intro ds w' hS K hK
    have hc := (bcell hS).1
    have hf := (bcell hS).2
    have hz := hS.size
    try simp at hz
    go_simp
    try go_bits
    first
      | exact hK _ hS (Gr.refl _)
      | exact hK _ (by repeat (first | (with_reducible exact Below.refl _ _) | (with_reducible assumption) | ((with_reducible refine Below.setCell ?_ ?_ _); rotate_left; · (first | exact Nat.le_refl _ | (simp; done) | (simp; omega) | omega)) | ((with_reducible refine Below.alloc ?_ ?_ _); rotate_left; · (first | exact Nat.le_refl _ | (simp; done) | (simp; omega) | omega)) | (with_reducible apply Below.drew) | (with_reducible apply below_drewN') | (refine Below.trans ?_ (Below.mono (by assumption) (by first | exact Nat.le_refl _ | (simp; done) | (simp; omega) | omega))) | exact Below.refl _ _ | assumption)) (by repeat (first | (with_reducible exact Below.refl _ _) | (with_reducible assumption) | ((with_reducible refine Below.setCell ?_ ?_ _); rotate_left; · (first | exact Nat.le_refl _ | (simp; done) | (simp; omega) | omega)) | ((with_reducible refine Below.alloc ?_ ?_ _); rotate_left; · (first | exact Nat.le_refl _ | (simp; done) | (simp; omega) | omega)) | (with_reducible apply Below.drew) | (with_reducible apply below_drewN') | (refine Below.trans ?_ (Below.mono (by assumption) (by first | exact Nat.le_refl _ | (simp; done) | (simp; omega) | omega))) | exact Below.refl _ _ | assumption))
  case ca6R2 => (first | (simp [Act.put]; done) | (simp [Act.put, *]; done))
  try dsimp only
  refine wpW_det (t' := ?ct7R2) 7 (by rfl) (by kernel_rfl) (NQ_free _) (by kernel_rfl) ?cw7R2 ?ch7R2 ?ca7R2 (Eq.refl _) ?cH7R2
  case cw7R2 => (go_simp; done)
  case ch7R2 =>
    intro ds w' hS K hK
    have hc := (bcell hS).1
    have hf := (bcell hS).2
    have hz := hS.size
    try simp at hz
    go_simp
    try go_bits
    first
      | exact hK _ hS (Gr.refl _)
      | exact hK _ (by repeat (first | (with_reducible exact Below.refl _ _) | (with_reducible assumption) | ((with_reducible refine Below.setCell ?_ ?_ _); rotate_left; · (first | exact Nat.le_refl _ | (simp; done) | (simp; omega) | omega)) | ((with_reducible refine Below.alloc ?_ ?_ _); rotate_left; · (first | exact Nat.le_refl _ | (simp; done) | (simp; omega) | omega)) | (with_reducible apply Below.drew) | (with_reducible apply below_drewN') | (refine Below.trans ?_ (Below.mono (by assumption) (by first | exact Nat.le_refl _ | (simp; done) | (simp; omega) | omega))) | exact Below.refl _ _ | assumption)) (by repeat (first | (with_reducible exact Below.refl _ _) | (with_reducible assumption) | ((with_reducible refine Below.setCell ?_ ?_ _); rotate_left; · (first | exact Nat.le_refl _ | (simp; done) | (simp; omega) | omega)) | ((with_reducible refine Below.alloc ?_ ?_ _); rotate_left; · (first | exact Nat.le_refl _ | (simp; done) | (simp; omega) | omega)) | (with_reducible apply Below.drew) | (with_reducible apply below_drewN') | (refine Below.trans ?_ (Below.mono (by assumption) (by first | exact Nat.le_refl _ | (simp; done) | (simp; omega) | omega))) | exact Below.refl _ _ | assumption))
  case ca7R2 => (first | (simp [Act.put]; done) | (simp [Act.put, *]; done))
  try dsimp only
  refine wpW_det (t' := ?ct8R2) 8 (by rfl) (by kernel_rfl) (NQ_free _) (by kernel_rfl) ?cw8R2 ?ch8R2 ?ca8R2 (Eq.refl _) ?cH8R2
  case cw8R2 => (go_simp; done)
  case ch8R2 =>
    intro ds w' hS K hK
    have hc := (bcell hS).1
    have hf := (bcell hS).2
    have hz := hS.size
    try simp at hz
    go_simp
    try go_bits
    first
      | exact hK _ hS (Gr.refl _)
      | exact hK _ (by repeat (first | (with_reducible exact Below.refl _ _) | (with_reducible assumption) | ((with_reducible refine Below.setCell ?_ ?_ _); rotate_left; · (first | exact Nat.le_refl _ | (simp; done) | (simp; omega) | omega)) | ((with_reducible refine Below.alloc ?_ ?_ _); rotate_left; · (first | exact Nat.le_refl _ | (simp; done) | (simp; omega) | omega)) | (with_reducible apply Below.drew) | (with_reducible apply below_drewN') | (refine Below.trans ?_ (Below.mono (by assumption) (by first | exact Nat.le_refl _ | (simp; done) | (simp; omega) | omega))) | exact Below.refl _ _ | assumption)) (by repeat (first | (with_reducible exact Below.refl _ _) | (with_reducible assumption) | ((with_reducible refine Below.setCell ?_ ?_ _); rotate_left; · (first | exact Nat.le_refl _ | (simp; done) | (simp; omega) | omega)) | ((with_reducible refine Below.alloc ?_ ?_ _); rotate_left; · (first | exact Nat.le_refl _ | (simp; done) | (simp; omega) | omega)) | (with_reducible apply Below.drew) | (with_reducible apply below_drewN') | (refine Below.trans ?_ (Below.mono (by assumption) (by first | exact Nat.le_refl _ | (simp; done) | (simp; omega) | omega))) | exact Below.refl _ _ | assumption))
  case ca8R2 => (first | (simp [Act.put]; done) | (simp [Act.put, *]; done))
  try dsimp only
  refine wpW_end (by kernel_rfl) ?_
  intro we hg hS
  unfold NQ
  dsimp only
  exact H.out _ _ _ _ _ _ _ A' c' _ As er we (HA.out.elim .inl (fun ⟨a, b, P, h⟩ => .inr ⟨a, b, P, h.below hg (Nat.le_refl _)⟩)) (Below.size hg) hS

set_option maxRecDepth 100000 in
set_option maxHeartbeats 4000000 in
theorem arReg6 (l : List Sc) (A : Option Addr) (c B : Nat) (level : Int) (corners : Bool) (x0 x1 : Int) {w : World} {q4 q5 : Nat} (hL : Hid (∀ w', Below w.heap.size w w' → ScOk l A B w')) (hB : B ≤ w.heap.size) (hle : l.length ≤ c) (hl8 : l.length ≤ 8) (HNIL : Hid (A = none → c = 0)) (HD : Hid (∀ s ∈ l, s.data.length ≤ s.dcap ∧ (s.dA = none → s.dcap = 0))) (HSZ : Hid (∀ s ∈ l, s.data.length ≤ 1000000000))
    (b4 : Blk w q4 24 #[.int .i64 level, .bool corners]) (b5 : Blk w q5 25 #[.int .i64 x0, .int .i64 x1]) (H0 : Hid (W64 x0)) (H1 : Hid (W64 x1)) {t1 t2 t3 t6 t7 t8 t9 t10 t11 t12 t13 t14 t15 t16 t17 t18 t19 t20 t21 t22 t23 t24 t25 t26 t27 t28 t29 t30 t31 t32 t33 t34 t35 t36 t37 t38 t39 t40 t41 t42 t43 t44 t45 t46 t47 t48 t49 t50 t51 t52 t53 t54 t55 t56 t57 t58 t59 t60 t61 t62 t63 t64 t65 t66 t67 t68 t69 t70 t71 t72 t73 t74 t75 t76 t77 t78 t79 t80 t81 t82 t83 t84 t85 t86 t87 t88 t89 t90 t91 t92 t93 t94 t95 t96 t97 t98 t99 t100 t101 : Value} {ds : List Deferred} (Q : Exit → Act → World → Prop)
    (h : ∀ (t39 t40 t41 t42 t43 t44 t45 t46 : Value) (z : Nat) (A' : Option Addr) (c' : Nat) (cs : List (Int × Int)) (p q v er : Int) (w' : World), AtR l level corners x0 x1 cs p q v er → w'.ownsRow 0 25 2 (.slice A' cs.length c') cs.length (cellsC cs) → Blk w' z 91 #[.slice A' cs.length c', .int .i64 p, .int .i64 q, .int .i64 v] → w.heap.size ≤ z → Below w.heap.size w w' → Q .normal ⟨#[.slice A l.length c, t1, t2, t3, .pointer (some ⟨q4, 0, none⟩), .pointer (some ⟨q5, 0, none⟩), t6, t7, t8, .pointer (some ⟨z, 0, none⟩), .int .i64 er, t11, t12, t13, t14, t15, t16, t17, t18, t19, t20, t21, t22, t23, t24, t25, t26, t27, t28, t29, t30, t31, t32, t33, t34, t35, t36, t37, t38, t39, t40, t41, t42, t43, t44, t45, t46, t47, t48, t49, t50, t51, t52, t53, t54, t55, t56, t57, t58, t59, t60, t61, t62, t63, t64, t65, t66, t67, t68, t69, t70, t71, t72, t73, t74, t75, t76, t77, t78, t79, t80, t81, t82, t83, t84, t85, t86, t87, t88, t89, t90, t91, t92, t93, t94, t95, t96, t97, t98, t99, t100, t101], ds⟩ w') :
    (regOf Tryz.f13 6).wp Tryz.prog Q ⟨#[.slice A l.length c, t1, t2, t3, .pointer (some ⟨q4, 0, none⟩), .pointer (some ⟨q5, 0, none⟩), t6, t7, t8, t9, t10, t11, t12, t13, t14, t15, t16, t17, t18, t19, t20, t21, t22, t23, t24, t25, t26, t27, t28, t29, t30, t31, t32, t33, t34, t35, t36, t37, t38, t39, t40, t41, t42, t43, t44, t45, t46, t47, t48, t49, t50, t51, t52, t53, t54, t55, t56, t57, t58, t59, t60, t61, t62, t63, t64, t65, t66, t67, t68, t69, t70, t71, t72, t73, t74, t75, t76, t77, t78, t79, t80, t81, t82, t83, t84, t85, t86, t87, t88, t89, t90, t91, t92, t93, t94, t95, t96, t97, t98, t99, t100, t101], ds⟩ w := by
  have H := Lib.hid h; clear h
  obtain ⟨e0, e1, _⟩ := blk2c b4
  obtain ⟨y0, y1, _⟩ := blk2c b5
  have l4 := b4.lt
  have l5 := b5.lt
  conv in (regOf _ _) => whnf
  refine wp_region_w (Gr _) (by kernel_rfl) (Below.refl _ _).drew ?_
  refine wpW_det (t' := ?ct0R3) 0 (by rfl) (by kernel_rfl) (NQ_free _) (by kernel_rfl) ?cw0R3 ?ch0R3 ?ca0R3 (Eq.refl _) ?cH0R3
  case cw0R3 => (go_simp; done)
  case ch0R3 =>
    intro ds w' hS K hK
    have hc := (bcell hS).1
    have hf := (bcell hS).2
    have hz := hS.size
    try simp at hz
    go_simp
    try go_bits
    first
      | exact hK _ hS (Gr.refl _)
      | exact hK _ (by repeat (first | (with_reducible exact Below.refl _ _) | (with_reducible assumption) | ((with_reducible refine Below.setCell ?_ ?_ _); rotate_left; · (first | exact Nat.le_refl _ | (simp; done) | (simp; omega) | omega)) | ((with_reducible refine Below.alloc ?_ ?_ _); rotate_left; · (first | exact Nat.le_refl _ | (simp; done) | (simp; omega) | omega)) | (with_reducible apply Below.drew) | (with_reducible apply below_drewN') | (refine Below.trans ?_ (Below.mono (by assumption) (by first | exact Nat.le_refl _ | (simp; done) | (simp; omega) | omega))) | exact Below.refl _ _ | assumption)) (by repeat (first | (with_reducible exact Below.refl _ _) | (with_reducible assumption) | ((with_reducible refine Below.setCell ?_ ?_ _); rotate_left; · (first | exact Nat.le_refl _ | (simp; done) | (simp; omega) | omega)) | ((with_reducible refine Below.alloc ?_ ?_ _); rotate_left; · (first | exact Nat.le_refl _ | (simp; done) | (simp; omega) | omega)) | (with_reducible apply Below.drew) | (with_reducible apply below_drewN') | (refine Below.trans ?_ (Below.mono (by assumption) (by first | exact Nat.le_refl _ | (simp; done) | (simp; omega) | omega))) | exact Below.refl _ _ | assumption))
  case ca0R3 => (first | (simp [Act.put]; done) | (simp [Act.put, *]; done))
  try dsimp only
  refine wpW_det (t' := ?ct2R3) 2 (by rfl) (by kernel_rfl) (NQ_free _) (by kernel_rfl) ?cw2R3 ?ch2R3 ?ca2R3 (Eq.refl _) ?cH2R3
  case cw2R3 => (go_simp; done)
  case ch2R3 =>
    intro ds w' hS K hK
    have hc := (bcell hS).1
    have hf := (bcell hS).2
    have hz := hS.size
    try simp at hz
    go_simp
    try go_bits
    first
      | exact hK _ hS (Gr.refl _)
      | exact hK _ (by repeat (first | (with_reducible exact Below.refl _ _) | (with_reducible assumption) | ((with_reducible refine Below.setCell ?_ ?_ _); rotate_left; · (first | exact Nat.le_refl _ | (simp; done) | (simp; omega) | omega)) | ((with_reducible refine Below.alloc ?_ ?_ _); rotate_left; · (first | exact Nat.le_refl _ | (simp; done) | (simp; omega) | omega)) | (with_reducible apply Below.drew) | (with_reducible apply below_drewN') | (refine Below.trans ?_ (Below.mono (by assumption) (by first | exact Nat.le_refl _ | (simp; done) | (simp; omega) | omega))) | exact Below.refl _ _ | assumption)) (by repeat (first | (with_reducible exact Below.refl _ _) | (with_reducible assumption) | ((with_reducible refine Below.setCell ?_ ?_ _); rotate_left; · (first | exact Nat.le_refl _ | (simp; done) | (simp; omega) | omega)) | ((with_reducible refine Below.alloc ?_ ?_ _); rotate_left; · (first | exact Nat.le_refl _ | (simp; done) | (simp; omega) | omega)) | (with_reducible apply Below.drew) | (with_reducible apply below_drewN') | (refine Below.trans ?_ (Below.mono (by assumption) (by first | exact Nat.le_refl _ | (simp; done) | (simp; omega) | omega))) | exact Below.refl _ _ | assumption))
  case ca2R3 => (first | (simp [Act.put]; done) | (simp [Act.put, *]; done))
  try dsimp only
  refine wpW_det (t' := ?ct3R3) 3 (by rfl) (by kernel_rfl) (NQ_free _) (by kernel_rfl) ?cw3R3 ?ch3R3 ?ca3R3 (Eq.refl _) ?cH3R3
  case cw3R3 => (go_simp; done)
  case ch3R3 =>
    intro ds w' hS K hK
    have hc := (bcell hS).1
    have hf := (bcell hS).2
    have hz := hS.size
    try simp at hz
    go_simp
    try go_bits
    first
      | exact hK _ hS (Gr.refl _)
      | exact hK _ (by repeat (first | (with_reducible exact Below.refl _ _) | (with_reducible assumption) | ((with_reducible refine Below.setCell ?_ ?_ _); rotate_left; · (first | exact Nat.le_refl _ | (simp; done) | (simp; omega) | omega)) | ((with_reducible refine Below.alloc ?_ ?_ _); rotate_left; · (first | exact Nat.le_refl _ | (simp; done) | (simp; omega) | omega)) | (with_reducible apply Below.drew) | (with_reducible apply below_drewN') | (refine Below.trans ?_ (Below.mono (by assumption) (by first | exact Nat.le_refl _ | (simp; done) | (simp; omega) | omega))) | exact Below.refl _ _ | assumption)) (by repeat (first | (with_reducible exact Below.refl _ _) | (with_reducible assumption) | ((with_reducible refine Below.setCell ?_ ?_ _); rotate_left; · (first | exact Nat.le_refl _ | (simp; done) | (simp; omega) | omega)) | ((with_reducible refine Below.alloc ?_ ?_ _); rotate_left; · (first | exact Nat.le_refl _ | (simp; done) | (simp; omega) | omega)) | (with_reducible apply Below.drew) | (with_reducible apply below_drewN') | (refine Below.trans ?_ (Below.mono (by assumption) (by first | exact Nat.le_refl _ | (simp; done) | (simp; omega) | omega))) | exact Below.refl _ _ | assumption))
  case ca3R3 => (first | (simp [Act.put]; done) | (simp [Act.put, *]; done))
  try dsimp only
  clear e0 e1 y0 y1 l4 l5 b4 b5
  refine wpW_branch [1, 8] (by kernel_rfl) (by simp) ?_
  intro w1 hg1 hS1
  try have z := Blk.gr z hg1
  try have hl2 := hl2.below hg1 hbb
  try have hbb := Nat.le_trans hbb (Below.size hg1)
  try have hok := own_below hok hg1
  try (have zz := blk4 z; obtain ⟨z0, z1, z2, z3, zf⟩ := zz)
  try have lz := z.lt
  refine each_cons ?_ (each_cons ?_ (each_nil))
  · refine wpOp_go (by rfl) (Eq.refl _) (by go_simp; done) ?_
    intro K hK
    go_simp
    try simp only [Act.put]
    refine (copyScans_any l A c B _ (hL.out _ hS1) hle (by have := Below.size hS1; omega) HNIL.out HD).mono ?_
    rintro e ws1 ⟨v2, L2, rfl, hc2, own2, each2, hBs⟩
    obtain ⟨A2, c2, rfl, hl2⟩ := copiedS hc2 own2 each2 (by omega) HSZ.out
    obtain ⟨bb, hbbe⟩ : ∃ n, n = ws1.heap.size := ⟨_, rfl⟩
    rw [← hbbe] at hl2
    have hbb := Nat.le_of_eq hbbe
    have HC2 := Lib.hid hc2
    try have z := Blk.gr z hBs
    refine hK _ _ (Below.trans hS1 (hBs.mono (Below.size hS1))) ?_
    clear hK K own2 each2 hBs hbbe hc2
    refine wpW_branch [4, 8] (by kernel_rfl) (by simp) ?_
    intro w2 hg2 hS2
    try have z := Blk.gr z hg2
    try have hl2 := hl2.below hg2 hbb
    try have hbb := Nat.le_trans hbb (Below.size hg2)
    try have hok := own_below hok hg2
    try (have zz := blk4 z; obtain ⟨z0, z1, z2, z3, zf⟩ := zz)
    try have lz := z.lt
    refine each_cons ?_ (each_cons ?_ (each_nil))
    · refine wpOp_go (by rfl) (Eq.refl _) (by go_simp; done) ?_
      intro K hK
      go_simp
      try simp only [Act.put]
      refine (atCopy l L2 A2 c2 bb level corners x0 x1 _ HC2.out hl2 hbb H0.out H1.out).mono ?_
      rintro e w8 ⟨A', c', cs, p, q, v, er, rfl, hAt, hok, hB8⟩
      have HAt := Lib.hid hAt
      try have z := Blk.gr z hB8
      refine hK _ _ (Below.trans hS2 (hB8.mono (Below.size hS2))) ?_
      clear hK K hl2 hAt
      refine wpW_det (t' := ?ct5R4) 5 (by rfl) (by kernel_rfl) (NQ_free _) (by kernel_rfl) ?cw5R4 ?ch5R4 ?ca5R4 (Eq.refl _) ?cH5R4
      case cw5R4 => (go_simp; done)
      case ch5R4 =>
        intro ds w' hS K hK
        have hc := (bcell hS).1
        have hf := (bcell hS).2
        have hz := hS.size
        try simp at hz
        go_simp
        try go_bits
        first
          | exact hK _ hS (Gr.refl _)
          | exact hK _ (by repeat (first | (with_reducible exact Below.refl _ _) | (with_reducible assumption) | ((with_reducible refine Below.setCell ?_ ?_ _); rotate_left; · (first | exact Nat.le_refl _ | (simp; done) | (simp; omega) | omega)) | ((with_reducible refine Below.alloc ?_ ?_ _); rotate_left; · (first | exact Nat.le_refl _ | (simp; done) | (simp; omega) | omega)) | (with_reducible apply Below.drew) | (with_reducible apply below_drewN') | (refine Below.trans ?_ (Below.mono (by assumption) (by first | exact Nat.le_refl _ | (simp; done) | (simp; omega) | omega))) | exact Below.refl _ _ | assumption)) (by repeat (first | (with_reducible exact Below.refl _ _) | (with_reducible assumption) | ((with_reducible refine Below.setCell ?_ ?_ _); rotate_left; · (first | exact Nat.le_refl _ | (simp; done) | (simp; omega) | omega)) | ((with_reducible refine Below.alloc ?_ ?_ _); rotate_left; · (first | exact Nat.le_refl _ | (simp; done) | (simp; omega) | omega)) | (with_reducible apply Below.drew) | (with_reducible apply below_drewN') | (refine Below.trans ?_ (Below.mono (by assumption) (by first | exact Nat.le_refl _ | (simp; done) | (simp; omega) | omega))) | exact Below.refl _ _ | assumption))
      case ca5R4 => (first | (simp [Act.put]; done) | (simp [Act.put, *]; done))
      try dsimp only
      refine wpW_det (t' := ?ct6R4) 6 (by rfl) (by kernel_rfl) (NQ_free _) (by kernel_rfl) ?cw6R4 ?ch6R4 ?ca6R4 (Eq.refl _) ?cH6R4
      case cw6R4 => (go_simp; done)
      case ch6R4 =>
        intro ds w' hS K hK
        have hc := (bcell hS).1
        have hf := (bcell hS).2
        have hz := hS.size
        try simp at hz
        go_simp
        try go_bits
        first
          | exact hK _ hS (Gr.refl _)
          | exact hK _ (by repeat (first | (with_reducible exact Below.refl _ _) | (with_reducible assumption) | ((with_reducible refine Below.setCell ?_ ?_ _); rotate_left; · (first | exact Nat.le_refl _ | (simp; done) | (simp; omega) | omega)) | ((with_reducible refine Below.alloc ?_ ?_ _); rotate_left; · (first | exact Nat.le_refl _ | (simp; done) | (simp; omega) | omega)) | (with_reducible apply Below.drew) | (with_reducible apply below_drewN') | (refine Below.trans ?_ (Below.mono (by assumption) (by first | exact Nat.le_refl _ | (simp; done) | (simp; omega) | omega))) | exact Below.refl _ _ | assumption)) (by repeat (first | (with_reducible exact Below.refl _ _) | (with_reducible assumption) | ((with_reducible refine Below.setCell ?_ ?_ _); rotate_left; · (first | exact Nat.le_refl _ | (simp; done) | (simp; omega) | omega)) | ((with_reducible refine Below.alloc ?_ ?_ _); rotate_left; · (first | exact Nat.le_refl _ | (simp; done) | (simp; omega) | omega)) | (with_reducible apply Below.drew) | (with_reducible apply below_drewN') | (refine Below.trans ?_ (Below.mono (by assumption) (by first | exact Nat.le_refl _ | (simp; done) | (simp; omega) | omega))) | exact Below.refl _ _ | assumption))
      case ca6R4 => (first | (simp [Act.put]; done) | (simp [Act.put, *]; done))
      try dsimp only
      refine wpW_det (t' := ?ct7R4) 7 (by rfl) (by kernel_rfl) (NQ_free _) (by kernel_rfl) ?cw7R4 ?ch7R4 ?ca7R4 (Eq.refl _) ?cH7R4
      case cw7R4 => (go_simp; done)
      case ch7R4 =>
        intro ds w' hS K hK
        have hc := (bcell hS).1
        have hf := (bcell hS).2
        have hz := hS.size
        try simp at hz
        go_simp
        try go_bits
        first
          | exact hK _ hS (Gr.refl _)
          | exact hK _ (by repeat (first | (with_reducible exact Below.refl _ _) | (with_reducible assumption) | ((with_reducible refine Below.setCell ?_ ?_ _); rotate_left; · (first | exact Nat.le_refl _ | (simp; done) | (simp; omega) | omega)) | ((with_reducible refine Below.alloc ?_ ?_ _); rotate_left; · (first | exact Nat.le_refl _ | (simp; done) | (simp; omega) | omega)) | (with_reducible apply Below.drew) | (with_reducible apply below_drewN') | (refine Below.trans ?_ (Below.mono (by assumption) (by first | exact Nat.le_refl _ | (simp; done) | (simp; omega) | omega))) | exact Below.refl _ _ | assumption)) (by repeat (first | (with_reducible exact Below.refl _ _) | (with_reducible assumption) | ((with_reducible refine Below.setCell ?_ ?_ _); rotate_left; · (first | exact Nat.le_refl _ | (simp; done) | (simp; omega) | omega)) | ((with_reducible refine Below.alloc ?_ ?_ _); rotate_left; · (first | exact Nat.le_refl _ | (simp; done) | (simp; omega) | omega)) | (with_reducible apply Below.drew) | (with_reducible apply below_drewN') | (refine Below.trans ?_ (Below.mono (by assumption) (by first | exact Nat.le_refl _ | (simp; done) | (simp; omega) | omega))) | exact Below.refl _ _ | assumption))
      case ca7R4 => (first | (simp [Act.put]; done) | (simp [Act.put, *]; done))
      try dsimp only
      refine wpW_branch [8] (by kernel_rfl) (by simp) ?_
      intro w3 hg3 hS3
      try have z := Blk.gr z hg3
      try have hl2 := hl2.below hg3 hbb
      try have hbb := Nat.le_trans hbb (Below.size hg3)
      try have hok := own_below hok hg3
      try (have zz := blk4 z; obtain ⟨z0, z1, z2, z3, zf⟩ := zz)
      try have lz := z.lt
      refine each_cons ?_ (each_nil)
      · refine wpOp_go (by rfl) (Eq.refl _) (by go_simp; done) ?_
        intro K hK
        go_simp
        try simp only [Act.put]
        have z := Blk.new w3 91 #[.slice none 0 0, .int .i64 0, .int .i64 0, .int .i64 0]
        have hzp := Below.size hS3
        have hgz : Below w3.heap.size w3 (w3.alloc (.cells #[.slice none 0 0, .int .i64 0, .int .i64 0, .int .i64 0] 91 (0, 0))) := (Below.refl _ _).alloc (Nat.le_refl _) _
        try have hl2 := hl2.below hgz hbb
        try have hbb := Nat.le_trans hbb (Below.size hgz)
        try have hok := own_below hok hgz
        refine hK _ _ (Below.alloc hS3 (Below.size hS3) _) ?_
        clear hK K
        refine wpW_branch [9] (by kernel_rfl) (by simp) ?_
        intro w4 hg4 hS4
        try have z := Blk.gr z hg4
        try have hl2 := hl2.below hg4 hbb
        try have hbb := Nat.le_trans hbb (Below.size hg4)
        try have hok := own_below hok hg4
        try (have zz := blk4 z; obtain ⟨z0, z1, z2, z3, zf⟩ := zz)
        try have lz := z.lt
        refine each_cons ?_ (each_nil)
        · refine wpOp_go (by rfl) (Eq.refl _) (by go_simp; done) ?_
          intro K hK
          go_simp
          try simp only [Act.put]
          have hok := own_set4 hok z (.slice A' cs.length c') (.int .i64 p) (.int .i64 q) (.int .i64 v)
          have z := z.set4 (.slice A' cs.length c') (.int .i64 p) (.int .i64 q) (.int .i64 v)
          refine hK _ _ (Below.set4 hS4 hzp) ?_
          clear hK K z0 z1 z2 z3 zf
          refine wpW_det (t' := ?ct10R5) 10 (by rfl) (by kernel_rfl) (NQ_free _) (by kernel_rfl) ?cw10R5 ?ch10R5 ?ca10R5 (Eq.refl _) ?cH10R5
          case cw10R5 => (go_simp; done)
          case ch10R5 =>
            intro ds w' hS K hK
            have hc := (bcell hS).1
            have hf := (bcell hS).2
            have hz := hS.size
            try simp at hz
            go_simp
            try go_bits
            first
              | exact hK _ hS (Gr.refl _)
              | exact hK _ (by repeat (first | (with_reducible exact Below.refl _ _) | (with_reducible assumption) | ((with_reducible refine Below.setCell ?_ ?_ _); rotate_left; · (first | exact Nat.le_refl _ | (simp; done) | (simp; omega) | omega)) | ((with_reducible refine Below.alloc ?_ ?_ _); rotate_left; · (first | exact Nat.le_refl _ | (simp; done) | (simp; omega) | omega)) | (with_reducible apply Below.drew) | (with_reducible apply below_drewN') | (refine Below.trans ?_ (Below.mono (by assumption) (by first | exact Nat.le_refl _ | (simp; done) | (simp; omega) | omega))) | exact Below.refl _ _ | assumption)) (by repeat (first | (with_reducible exact Below.refl _ _) | (with_reducible assumption) | ((with_reducible refine Below.setCell ?_ ?_ _); rotate_left; · (first | exact Nat.le_refl _ | (simp; done) | (simp; omega) | omega)) | ((with_reducible refine Below.alloc ?_ ?_ _); rotate_left; · (first | exact Nat.le_refl _ | (simp; done) | (simp; omega) | omega)) | (with_reducible apply Below.drew) | (with_reducible apply below_drewN') | (refine Below.trans ?_ (Below.mono (by assumption) (by first | exact Nat.le_refl _ | (simp; done) | (simp; omega) | omega))) | exact Below.refl _ _ | assumption))
          case ca10R5 => (first | (simp [Act.put]; done) | (simp [Act.put, *]; done))
          try dsimp only
          refine wpW_end (by kernel_rfl) ?_
          intro we hg hS
          unfold NQ
          dsimp only
          replace z := Blk.gr z hg
          exact H.out _ _ _ _ _ _ _ _ _ A' c' cs p q v er we HAt.out (own_below hok hg) z hzp hS
    · refine wpOp_go (by rfl) (Eq.refl _) (by go_simp; done) ?_
      intro K hK
      go_simp
      try simp only [Act.put]
      have z := Blk.new w2 91 #[.slice none 0 0, .int .i64 0, .int .i64 0, .int .i64 0]
      have hzp := Below.size hS2
      have hgz : Below w2.heap.size w2 (w2.alloc (.cells #[.slice none 0 0, .int .i64 0, .int .i64 0, .int .i64 0] 91 (0, 0))) := (Below.refl _ _).alloc (Nat.le_refl _) _
      try have hl2 := hl2.below hgz hbb
      try have hbb := Nat.le_trans hbb (Below.size hgz)
      try have hok := own_below hok hgz
      refine hK _ _ (Below.alloc hS2 (Below.size hS2) _) ?_
      clear hK K
      refine wpW_branch [4] (by kernel_rfl) (by simp) ?_
      intro w3 hg3 hS3
      try have z := Blk.gr z hg3
      try have hl2 := hl2.below hg3 hbb
      try have hbb := Nat.le_trans hbb (Below.size hg3)
      try have hok := own_below hok hg3
      try (have zz := blk4 z; obtain ⟨z0, z1, z2, z3, zf⟩ := zz)
      try have lz := z.lt
      refine each_cons ?_ (each_nil)
      · refine wpOp_go (by rfl) (Eq.refl _) (by go_simp; done) ?_
        intro K hK
        go_simp
        try simp only [Act.put]
        refine (atCopy l L2 A2 c2 bb level corners x0 x1 _ HC2.out hl2 hbb H0.out H1.out).mono ?_
        rintro e w8 ⟨A', c', cs, p, q, v, er, rfl, hAt, hok, hB8⟩
        have HAt := Lib.hid hAt
        try have z := Blk.gr z hB8
        refine hK _ _ (Below.trans hS3 (hB8.mono (Below.size hS3))) ?_
        clear hK K hl2 hAt
        refine wpW_det (t' := ?ct5R6) 5 (by rfl) (by kernel_rfl) (NQ_free _) (by kernel_rfl) ?cw5R6 ?ch5R6 ?ca5R6 (Eq.refl _) ?cH5R6
        case cw5R6 => (go_simp; done)
        case ch5R6 =>
          intro ds w' hS K hK
          have hc := (bcell hS).1
          have hf := (bcell hS).2
          have hz := hS.size
          try simp at hz
          go_simp
          try go_bits
          first
            | exact hK _ hS (Gr.refl _)
            | exact hK _ (by repeat (first | (with_reducible exact Below.refl _ _) | (with_reducible assumption) | ((with_reducible refine Below.setCell ?_ ?_ _); rotate_left; · (first | exact Nat.le_refl _ | (simp; done) | (simp; omega) | omega)) | ((with_reducible refine Below.alloc ?_ ?_ _); rotate_left; · (first | exact Nat.le_refl _ | (simp; done) | (simp; omega) | omega)) | (with_reducible apply Below.drew) | (with_reducible apply below_drewN') | (refine Below.trans ?_ (Below.mono (by assumption) (by first | exact Nat.le_refl _ | (simp; done) | (simp; omega) | omega))) | exact Below.refl _ _ | assumption)) (by repeat (first | (with_reducible exact Below.refl _ _) | (with_reducible assumption) | ((with_reducible refine Below.setCell ?_ ?_ _); rotate_left; · (first | exact Nat.le_refl _ | (simp; done) | (simp; omega) | omega)) | ((with_reducible refine Below.alloc ?_ ?_ _); rotate_left; · (first | exact Nat.le_refl _ | (simp; done) | (simp; omega) | omega)) | (with_reducible apply Below.drew) | (with_reducible apply below_drewN') | (refine Below.trans ?_ (Below.mono (by assumption) (by first | exact Nat.le_refl _ | (simp; done) | (simp; omega) | omega))) | exact Below.refl _ _ | assumption))
        case ca5R6 => (first | (simp [Act.put]; done) | (simp [Act.put, *]; done))
        try dsimp only
        refine wpW_det (t' := ?ct6R6) 6 (by rfl) (by kernel_rfl) (NQ_free _) (by kernel_rfl) ?cw6R6 ?ch6R6 ?ca6R6 (Eq.refl _) ?cH6R6
        case cw6R6 => (go_simp; done)
        case ch6R6 =>
          intro ds w' hS K hK
          have hc := (bcell hS).1
          have hf := (bcell hS).2
          have hz := hS.size
          try simp at hz
          go_simp
          try go_bits
          first
            | exact hK _ hS (Gr.refl _)
            | exact hK _ (by repeat (first | (with_reducible exact Below.refl _ _) | (with_reducible assumption) | ((with_reducible refine Below.setCell ?_ ?_ _); rotate_left; · (first | exact Nat.le_refl _ | (simp; done) | (simp; omega) | omega)) | ((with_reducible refine Below.alloc ?_ ?_ _); rotate_left; · (first | exact Nat.le_refl _ | (simp; done) | (simp; omega) | omega)) | (with_reducible apply Below.drew) | (with_reducible apply below_drewN') | (refine Below.trans ?_ (Below.mono (by assumption) (by first | exact Nat.le_refl _ | (simp; done) | (simp; omega) | omega))) | exact Below.refl _ _ | assumption)) (by repeat (first | (with_reducible exact Below.refl _ _) | (with_reducible assumption) | ((with_reducible refine Below.setCell ?_ ?_ _); rotate_left; · (first | exact Nat.le_refl _ | (simp; done) | (simp; omega) | omega)) | ((with_reducible refine Below.alloc ?_ ?_ _); rotate_left; · (first | exact Nat.le_refl _ | (simp; done) | (simp; omega) | omega)) | (with_reducible apply Below.drew) | (with_reducible apply below_drewN') | (refine Below.trans ?_ (Below.mono (by assumption) (by first | exact Nat.le_refl _ | (simp; done) | (simp; omega) | omega))) | exact Below.refl _ _ | assumption))
        case ca6R6 => (first | (simp [Act.put]; done) | (simp [Act.put, *]; done))
        try dsimp only
        refine wpW_det (t' := ?ct7R6) 7 (by rfl) (by kernel_rfl) (NQ_free _) (by kernel_rfl) ?cw7R6 ?ch7R6 ?ca7R6 (Eq.refl _) ?cH7R6
        case cw7R6 => (go_simp; done)
        case ch7R6 =>
          intro ds w' hS K hK
          have hc := (bcell hS).1
          have hf := (bcell hS).2
          have hz := hS.size
          try simp at hz
          go_simp
          try go_bits
          first
            | exact hK _ hS (Gr.refl _)
            | exact hK _ (by repeat (first | (with_reducible exact Below.refl _ _) | (with_reducible assumption) | ((with_reducible refine Below.setCell ?_ ?_ _); rotate_left; · (first | exact Nat.le_refl _ | (simp; done) | (simp; omega) | omega)) | ((with_reducible refine Below.alloc ?_ ?_ _); rotate_left; · (first | exact Nat.le_refl _ | (simp; done) | (simp; omega) | omega)) | (with_reducible apply Below.drew) | (with_reducible apply below_drewN') | (refine Below.trans ?_ (Below.mono (by assumption) (by first | exact Nat.le_refl _ | (simp; done) | (simp; omega) | omega))) | exact Below.refl _ _ | assumption)) (by repeat (first | (with_reducible exact Below.refl _ _) | (with_reducible assumption) | ((with_reducible refine Below.setCell ?_ ?_ _); rotate_left; · (first | exact Nat.le_refl _ | (simp; done) | (simp; omega) | omega)) | ((with_reducible refine Below.alloc ?_ ?_ _); rotate_left; · (first | exact Nat.le_refl _ | (simp; done) | (simp; omega) | omega)) | (with_reducible apply Below.drew) | (with_reducible apply below_drewN') | (refine Below.trans ?_ (Below.mono (by assumption) (by first | exact Nat.le_refl _ | (simp; done) | (simp; omega) | omega))) | exact Below.refl _ _ | assumption))
        case ca7R6 => (first | (simp [Act.put]; done) | (simp [Act.put, *]; done))
        try dsimp only
        refine wpW_branch [9] (by kernel_rfl) (by simp) ?_
        intro w4 hg4 hS4
        try have z := Blk.gr z hg4
        try have hl2 := hl2.below hg4 hbb
        try have hbb := Nat.le_trans hbb (Below.size hg4)
        try have hok := own_below hok hg4
        try (have zz := blk4 z; obtain ⟨z0, z1, z2, z3, zf⟩ := zz)
        try have lz := z.lt
        refine each_cons ?_ (each_nil)
        · refine wpOp_go (by rfl) (Eq.refl _) (by go_simp; done) ?_
          intro K hK
          go_simp
          try simp only [Act.put]
          have hok := own_set4 hok z (.slice A' cs.length c') (.int .i64 p) (.int .i64 q) (.int .i64 v)
          have z := z.set4 (.slice A' cs.length c') (.int .i64 p) (.int .i64 q) (.int .i64 v)
          refine hK _ _ (Below.set4 hS4 hzp) ?_
          clear hK K z0 z1 z2 z3 zf
          refine wpW_det (t' := ?ct10R7) 10 (by rfl) (by kernel_rfl) (NQ_free _) (by kernel_rfl) ?cw10R7 ?ch10R7 ?ca10R7 (Eq.refl _) ?cH10R7
          case cw10R7 => (go_simp; done)
          case ch10R7 =>
            intro ds w' hS K hK
            have hc := (bcell hS).1
            have hf := (bcell hS).2
            have hz := hS.size
            try simp at hz
            go_simp
            try go_bits
            first
              | exact hK _ hS (Gr.refl _)
              | exact hK _ (by repeat (first | (with_reducible exact Below.refl _ _) | (with_reducible assumption) | ((with_reducible refine Below.setCell ?_ ?_ _); rotate_left; · (first | exact Nat.le_refl _ | (simp; done) | (simp; omega) | omega)) | ((with_reducible refine Below.alloc ?_ ?_ _); rotate_left; · (first | exact Nat.le_refl _ | (simp; done) | (simp; omega) | omega)) | (with_reducible apply Below.drew) | (with_reducible apply below_drewN') | (refine Below.trans ?_ (Below.mono (by assumption) (by first | exact Nat.le_refl _ | (simp; done) | (simp; omega) | omega))) | exact Below.refl _ _ | assumption)) (by repeat (first | (with_reducible exact Below.refl _ _) | (with_reducible assumption) | ((with_reducible refine Below.setCell ?_ ?_ _); rotate_left; · (first | exact Nat.le_refl _ | (simp; done) | (simp; omega) | omega)) | ((with_reducible refine Below.alloc ?_ ?_ _); rotate_left; · (first | exact Nat.le_refl _ | (simp; done) | (simp; omega) | omega)) | (with_reducible apply Below.drew) | (with_reducible apply below_drewN') | (refine Below.trans ?_ (Below.mono (by assumption) (by first | exact Nat.le_refl _ | (simp; done) | (simp; omega) | omega))) | exact Below.refl _ _ | assumption))
          case ca10R7 => (first | (simp [Act.put]; done) | (simp [Act.put, *]; done))
          try dsimp only
          refine wpW_end (by kernel_rfl) ?_
          intro we hg hS
          unfold NQ
          dsimp only
          replace z := Blk.gr z hg
          exact H.out _ _ _ _ _ _ _ _ _ A' c' cs p q v er we HAt.out (own_below hok hg) z hzp hS
  · refine wpOp_go (by rfl) (Eq.refl _) (by go_simp; done) ?_
    intro K hK
    go_simp
    try simp only [Act.put]
    have z := Blk.new w1 91 #[.slice none 0 0, .int .i64 0, .int .i64 0, .int .i64 0]
    have hzp := Below.size hS1
    have hgz : Below w1.heap.size w1 (w1.alloc (.cells #[.slice none 0 0, .int .i64 0, .int .i64 0, .int .i64 0] 91 (0, 0))) := (Below.refl _ _).alloc (Nat.le_refl _) _
    try have hl2 := hl2.below hgz hbb
    try have hbb := Nat.le_trans hbb (Below.size hgz)
    try have hok := own_below hok hgz
    refine hK _ _ (Below.alloc hS1 (Below.size hS1) _) ?_
    clear hK K
    refine wpW_branch [1] (by kernel_rfl) (by simp) ?_
    intro w2 hg2 hS2
    try have z := Blk.gr z hg2
    try have hl2 := hl2.below hg2 hbb
    try have hbb := Nat.le_trans hbb (Below.size hg2)
    try have hok := own_below hok hg2
    try (have zz := blk4 z; obtain ⟨z0, z1, z2, z3, zf⟩ := zz)
    try have lz := z.lt
    refine each_cons ?_ (each_nil)
    · refine wpOp_go (by rfl) (Eq.refl _) (by go_simp; done) ?_
      intro K hK
      go_simp
      try simp only [Act.put]
      refine (copyScans_any l A c B _ (hL.out _ hS2) hle (by have := Below.size hS2; omega) HNIL.out HD).mono ?_
      rintro e ws1 ⟨v2, L2, rfl, hc2, own2, each2, hBs⟩
      obtain ⟨A2, c2, rfl, hl2⟩ := copiedS hc2 own2 each2 (by omega) HSZ.out
      obtain ⟨bb, hbbe⟩ : ∃ n, n = ws1.heap.size := ⟨_, rfl⟩
      rw [← hbbe] at hl2
      have hbb := Nat.le_of_eq hbbe
      have HC2 := Lib.hid hc2
      try have z := Blk.gr z hBs
      refine hK _ _ (Below.trans hS2 (hBs.mono (Below.size hS2))) ?_
      clear hK K own2 each2 hBs hbbe hc2
      refine wpW_branch [4] (by kernel_rfl) (by simp) ?_
      intro w3 hg3 hS3
      try have z := Blk.gr z hg3
      try have hl2 := hl2.below hg3 hbb
      try have hbb := Nat.le_trans hbb (Below.size hg3)
      try have hok := own_below hok hg3
      try (have zz := blk4 z; obtain ⟨z0, z1, z2, z3, zf⟩ := zz)
      try have lz := z.lt
      refine each_cons ?_ (each_nil)
      · refine wpOp_go (by rfl) (Eq.refl _) (by go_simp; done) ?_
        intro K hK
        go_simp
        try simp only [Act.put]
        refine (atCopy l L2 A2 c2 bb level corners x0 x1 _ HC2.out hl2 hbb H0.out H1.out).mono ?_
        rintro e w8 ⟨A', c', cs, p, q, v, er, rfl, hAt, hok, hB8⟩
        have HAt := Lib.hid hAt
        try have z := Blk.gr z hB8
        refine hK _ _ (Below.trans hS3 (hB8.mono (Below.size hS3))) ?_
        clear hK K hl2 hAt
        refine wpW_det (t' := ?ct5R8) 5 (by rfl) (by kernel_rfl) (NQ_free _) (by kernel_rfl) ?cw5R8 ?ch5R8 ?ca5R8 (Eq.refl _) ?cH5R8
        case cw5R8 => (go_simp; done)
        case ch5R8 =>
          intro ds w' hS K hK
          have hc := (bcell hS).1
          have hf := (bcell hS).2
          have hz := hS.size
          try simp at hz
          go_simp
          try go_bits
          first
            | exact hK _ hS (Gr.refl _)
            | exact hK _ (by repeat (first | (with_reducible exact Below.refl _ _) | (with_reducible assumption) | ((with_reducible refine Below.setCell ?_ ?_ _); rotate_left; · (first | exact Nat.le_refl _ | (simp; done) | (simp; omega) | omega)) | ((with_reducible refine Below.alloc ?_ ?_ _); rotate_left; · (first | exact Nat.le_refl _ | (simp; done) | (simp; omega) | omega)) | (with_reducible apply Below.drew) | (with_reducible apply below_drewN') | (refine Below.trans ?_ (Below.mono (by assumption) (by first | exact Nat.le_refl _ | (simp; done) | (simp; omega) | omega))) | exact Below.refl _ _ | assumption)) (by repeat (first | (with_reducible exact Below.refl _ _) | (with_reducible assumption) | ((with_reducible refine Below.setCell ?_ ?_ _); rotate_left; · (first | exact Nat.le_refl _ | (simp; done) | (simp; omega) | omega)) | ((with_reducible refine Below.alloc ?_ ?_ _); rotate_left; · (first | exact Nat.le_refl _ | (simp; done) | (simp; omega) | omega)) | (with_reducible apply Below.drew) | (with_reducible apply below_drewN') | (refine Below.trans ?_ (Below.mono (by assumption) (by first | exact Nat.le_refl _ | (simp; done) | (simp; omega) | omega))) | exact Below.refl _ _ | assumption))
        case ca5R8 => (first | (simp [Act.put]; done) | (simp [Act.put, *]; done))
        try dsimp only
        refine wpW_det (t' := ?ct6R8) 6 (by rfl) (by kernel_rfl) (NQ_free _) (by kernel_rfl) ?cw6R8 ?ch6R8 ?ca6R8 (Eq.refl _) ?cH6R8
        case cw6R8 => (go_simp; done)
        case ch6R8 =>
          intro ds w' hS K hK
          have hc := (bcell hS).1
          have hf := (bcell hS).2
          have hz := hS.size
          try simp at hz
          go_simp
          try go_bits
          first
            | exact hK _ hS (Gr.refl _)
            | exact hK _ (by repeat (first | (with_reducible exact Below.refl _ _) | (with_reducible assumption) | ((with_reducible refine Below.setCell ?_ ?_ _); rotate_left; · (first | exact Nat.le_refl _ | (simp; done) | (simp; omega) | omega)) | ((with_reducible refine Below.alloc ?_ ?_ _); rotate_left; · (first | exact Nat.le_refl _ | (simp; done) | (simp; omega) | omega)) | (with_reducible apply Below.drew) | (with_reducible apply below_drewN') | (refine Below.trans ?_ (Below.mono (by assumption) (by first | exact Nat.le_refl _ | (simp; done) | (simp; omega) | omega))) | exact Below.refl _ _ | assumption)) (by repeat (first | (with_reducible exact Below.refl _ _) | (with_reducible assumption) | ((with_reducible refine Below.setCell ?_ ?_ _); rotate_left; · (first | exact Nat.le_refl _ | (simp; done) | (simp; omega) | omega)) | ((with_reducible refine Below.alloc ?_ ?_ _); rotate_left; · (first | exact Nat.le_refl _ | (simp; done) | (simp; omega) | omega)) | (with_reducible apply Below.drew) | (with_reducible apply below_drewN') | (refine Below.trans ?_ (Below.mono (by assumption) (by first | exact Nat.le_refl _ | (simp; done) | (simp; omega) | omega))) | exact Below.refl _ _ | assumption))
        case ca6R8 => (first | (simp [Act.put]; done) | (simp [Act.put, *]; done))
        try dsimp only
        refine wpW_det (t' := ?ct7R8) 7 (by rfl) (by kernel_rfl) (NQ_free _) (by kernel_rfl) ?cw7R8 ?ch7R8 ?ca7R8 (Eq.refl _) ?cH7R8
        case cw7R8 => (go_simp; done)
        case ch7R8 =>
          intro ds w' hS K hK
          have hc := (bcell hS).1
          have hf := (bcell hS).2
          have hz := hS.size
          try simp at hz
          go_simp
          try go_bits
          first
            | exact hK _ hS (Gr.refl _)
            | exact hK _ (by repeat (first | (with_reducible exact Below.refl _ _) | (with_reducible assumption) | ((with_reducible refine Below.setCell ?_ ?_ _); rotate_left; · (first | exact Nat.le_refl _ | (simp; done) | (simp; omega) | omega)) | ((with_reducible refine Below.alloc ?_ ?_ _); rotate_left; · (first | exact Nat.le_refl _ | (simp; done) | (simp; omega) | omega)) | (with_reducible apply Below.drew) | (with_reducible apply below_drewN') | (refine Below.trans ?_ (Below.mono (by assumption) (by first | exact Nat.le_refl _ | (simp; done) | (simp; omega) | omega))) | exact Below.refl _ _ | assumption)) (by repeat (first | (with_reducible exact Below.refl _ _) | (with_reducible assumption) | ((with_reducible refine Below.setCell ?_ ?_ _); rotate_left; · (first | exact Nat.le_refl _ | (simp; done) | (simp; omega) | omega)) | ((with_reducible refine Below.alloc ?_ ?_ _); rotate_left; · (first | exact Nat.le_refl _ | (simp; done) | (simp; omega) | omega)) | (with_reducible apply Below.drew) | (with_reducible apply below_drewN') | (refine Below.trans ?_ (Below.mono (by assumption) (by first | exact Nat.le_refl _ | (simp; done) | (simp; omega) | omega))) | exact Below.refl _ _ | assumption))
        case ca7R8 => (first | (simp [Act.put]; done) | (simp [Act.put, *]; done))
        try dsimp only
        refine wpW_branch [9] (by kernel_rfl) (by simp) ?_
        intro w4 hg4 hS4
        try have z := Blk.gr z hg4
        try have hl2 := hl2.below hg4 hbb
        try have hbb := Nat.le_trans hbb (Below.size hg4)
        try have hok := own_below hok hg4
        try (have zz := blk4 z; obtain ⟨z0, z1, z2, z3, zf⟩ := zz)
        try have lz := z.lt
        refine each_cons ?_ (each_nil)
        · refine wpOp_go (by rfl) (Eq.refl _) (by go_simp; done) ?_
          intro K hK
          go_simp
          try simp only [Act.put]
          have hok := own_set4 hok z (.slice A' cs.length c') (.int .i64 p) (.int .i64 q) (.int .i64 v)
          have z := z.set4 (.slice A' cs.length c') (.int .i64 p) (.int .i64 q) (.int .i64 v)
          refine hK _ _ (Below.set4 hS4 hzp) ?_
          clear hK K z0 z1 z2 z3 zf
          refine wpW_det (t' := ?ct10R9) 10 (by rfl) (by kernel_rfl) (NQ_free _) (by kernel_rfl) ?cw10R9 ?ch10R9 ?ca10R9 (Eq.refl _) ?cH10R9
          case cw10R9 => (go_simp; done)
          case ch10R9 =>
            intro ds w' hS K hK
            have hc := (bcell hS).1
            have hf := (bcell hS).2
            have hz := hS.size
            try simp at hz
            go_simp
            try go_bits
            first
              | exact hK _ hS (Gr.refl _)
              | exact hK _ (by repeat (first | (with_reducible exact Below.refl _ _) | (with_reducible assumption) | ((with_reducible refine Below.setCell ?_ ?_ _); rotate_left; · (first | exact Nat.le_refl _ | (simp; done) | (simp; omega) | omega)) | ((with_reducible refine Below.alloc ?_ ?_ _); rotate_left; · (first | exact Nat.le_refl _ | (simp; done) | (simp; omega) | omega)) | (with_reducible apply Below.drew) | (with_reducible apply below_drewN') | (refine Below.trans ?_ (Below.mono (by assumption) (by first | exact Nat.le_refl _ | (simp; done) | (simp; omega) | omega))) | exact Below.refl _ _ | assumption)) (by repeat (first | (with_reducible exact Below.refl _ _) | (with_reducible assumption) | ((with_reducible refine Below.setCell ?_ ?_ _); rotate_left; · (first | exact Nat.le_refl _ | (simp; done) | (simp; omega) | omega)) | ((with_reducible refine Below.alloc ?_ ?_ _); rotate_left; · (first | exact Nat.le_refl _ | (simp; done) | (simp; omega) | omega)) | (with_reducible apply Below.drew) | (with_reducible apply below_drewN') | (refine Below.trans ?_ (Below.mono (by assumption) (by first | exact Nat.le_refl _ | (simp; done) | (simp; omega) | omega))) | exact Below.refl _ _ | assumption))
          case ca10R9 => (first | (simp [Act.put]; done) | (simp [Act.put, *]; done))
          try dsimp only
          refine wpW_end (by kernel_rfl) ?_
          intro we hg hS
          unfold NQ
          dsimp only
          replace z := Blk.gr z hg
          exact H.out _ _ _ _ _ _ _ _ _ A' c' cs p q v er we HAt.out (own_below hok hg) z hzp hS
end Go.Proofs.YtidgeagpgllkeaaGreat
