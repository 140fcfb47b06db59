/- Contract: the areas of a copy of scans, as they are read. The law FlawLevels answers true. Regions of the law FlawLevels: whether an area lies in another one; the amplitude of a cell. Inner loops of the law FlawLevels. -/
import Derived.Test.YtidgeagpgllkeaaGreatFjF
import Derived.Test.YtidgeagpgllkeaaGreatFjB
import Derived.Test.YtidgeagpgllkeaaGreatFjG
import Derived.Test.YtidgeagpgllkeaaGreatFgD
namespace Go.Proofs.YtidgeagpgllkeaaGreat
open Go.RowKit

def allC (l : List Sc) : List (Int × Int) := l.flatMap fun s => (List.range 24).flatMap fun (r : Nat) => (List.range 24).map fun (c : Nat) => (s.row + (r : Int), s.col + (c : Int))
theorem allC_len (l : List Sc) : (allC l).length = l.length * 576 := by
  induction l with
  | nil => rfl
  | cons s l ih =>
    unfold allC at *
    rw [List.flatMap_cons, List.length_append, ih]
    have : ((List.range 24).flatMap fun (r : Nat) => (List.range 24).map fun (c : Nat) => (s.row + (r : Int), s.col + (c : Int))).length = 576 := by
      rw [List.length_flatMap]
      simp only [List.length_map, List.length_range]
      rfl
    rw [this, List.length_cons]; omega
theorem Pls.short {l : List Sc} {level : Int} {P : List (Int × Int)} (h : Pls (atV l) level P) (hg : ∀ s ∈ l, ScGood s) (hn : l.length ≤ 6) : P.length ≤ 3456 := by
  have := nodup_len P (allC l) h.nodup fun x hx => by
    obtain ⟨s, hs, hi⟩ := known_in ((abv_iff _ _ _ _).1 ((h.mem x).1 hx)).1
    have g1 := (hg s hs).rows
    have g2 := (hg s hs).cols
    simp [inB, wi] at hi
    unfold allC
    refine List.mem_flatMap.2 ⟨s, hs, List.mem_flatMap.2 ⟨(x.1 - s.row).toNat, List.mem_range.2 (by omega), List.mem_map.2 ⟨(x.2 - s.col).toNat, List.mem_range.2 (by omega), ?_⟩⟩⟩
    exact Prod.ext (by dsimp only; omega) (by dsimp only; omega)
  rw [allC_len] at this
  omega
/-- Areas, as a call found them. -/
structure AreasA (g : Int → Int → Int) (level : Int) (corners : Bool) (P : List (Int × Int)) (As : List ArA) (A : Option Addr) (B : Nat) (W : World) : Prop where
  pls : Pls g level P
  ars : ∃ Bs : List ((Int × Int) × ArA), Bs.map (·.2) = As ∧ ArS g level corners P P.length Bs
  ok : ArsOk g As A B W
theorem AreasA.below {g : Int → Int → Int} {level : Int} {corners : Bool} {P : List (Int × Int)} {As : List ArA} {A : Option Addr} {B C : Nat} {W W' : World} (h : AreasA g level corners P As A B W) (hb : Below C W W') (hC : B ≤ C) : AreasA g level corners P As A B W' :=
  ⟨h.pls, h.ars, h.ok.below hb hC⟩
theorem atV_w64 {l : List Sc} (hg : ∀ s ∈ l, ScGood s) : ∀ x y, 0 ≤ atV l x y → W64 x ∧ W64 y := fun x y h => by
  have := atV_known hg h
  unfold W64
  omega
theorem own_ar {W : World} {base : Nat} {a : ArA} (h : W.ownsRow base 25 2 a.1 a.2.length (cellsC a.2)) : ArOk a W.heap.size W := by
  obtain ⟨A, c, e, hR, hc, _⟩ := own_row2 h
  refine ⟨?_, A, c, e, hR⟩
  rcases h.2 with ⟨_, h0⟩ | ⟨_, cap, _, _, _, _, h1, h2, _⟩
  · omega
  · unfold maxLen at h2; omega
theorem core_good {l L : List Sc} (hc : L.map Sc.core = l.map Sc.core) (hg : ∀ s ∈ l, ScGood s) : ∀ s ∈ L, ScGood s := fun s hs => by
  have hm : s.core ∈ l.map Sc.core := by rw [← hc]; exact List.mem_map_of_mem hs
  obtain ⟨t, ht, e⟩ := List.mem_map.1 hm
  obtain ⟨e1, e2, e3, e4, e5⟩ := core_eq e
  have := hg t ht
  exact ⟨by rw [← e1]; exact this.row, by rw [← e2]; exact this.col, by rw [← e3]; exact this.rows, by rw [← e4]; exact this.cols, by rw [← e3, ← e4, ← e5]; exact this.len, by rw [← e5]; exact this.short, by rw [← e5]; exact this.data⟩
theorem levelE_zero {n : Int} (h : wi n 0 1000000000 = true) : levelE n = 0 := by unfold levelE; rw [h]; rfl

theorem areasCopy (l L : List Sc) (A : Option Addr) (cap B : Nat) (level : Int) (corners : Bool) (w : World) (hc : L.map Sc.core = l.map Sc.core) (hl : ScOk L A B w) (hB : B ≤ w.heap.size) (hg : ∀ s ∈ l, ScGood s) (hn : l.length ≤ 6) (hlv : wi level 0 1000000000 = true) :
    Calls Tryz.prog 22 #[.slice A L.length cap, .agg #[.int .i64 level, .bool corners]] w fun e w' => ∃ (A' : Option Addr) (c' : Nat) (P : List (Int × Int)) (As : List ArA), e = .returned (.tuple #[.slice A' As.length c', .int .i64 0]) ∧ AreasA (atV l) level corners P As A' w'.heap.size w' ∧ Below w.heap.size w w' := by
  have hgL := core_good hc hg
  have hnL := core_len hc
  have hs : (scansE L).2 = 0 := by rw [scansE_good (by omega) hgL]
  have he : scanAskE L level = 0 := (firstE_zero _).2 (fun e he => by
    simp only [List.mem_cons, List.not_mem_nil, or_false] at he
    rcases he with rfl | rfl
    · exact hs
    · exact levelE_zero hlv)
  refine (areas_ok L A cap B level corners w hl hB he (Lib.hid hgL)).mono ?_
  rintro e w' ⟨v, P, Bs, rfl, hP, hS, hrow, hrows, hBw⟩
  rw [atV_core hc] at hP hS hrow
  obtain ⟨A', c', rfl, hR, _, _⟩ := own_row2 hrow
  have hlen : Bs.length ≤ 9223372036854775807 := by
    rcases hrow.2 with ⟨_, h0⟩ | ⟨_, cap, _, _, _, _, h1, h2, _⟩
    · omega
    · unfold maxLen at h2; omega
  refine ⟨A', c', P, Bs.map (·.2), by rw [List.length_map], ⟨hP.pls (atV_w64 hg), ⟨Bs, rfl, hS⟩, ⟨by rw [List.length_map]; exact hlen, by rw [List.length_map]; exact hR, fun a ha => ?_⟩⟩, hBw⟩
  obtain ⟨q, hq, rfl⟩ := List.mem_map.1 ha
  exact own_ar (hrows q hq)
end Go.Proofs.YtidgeagpgllkeaaGreat

namespace Go.Proofs.YtidgeagpgllkeaaGreat
open Go.RowKit

theorem peakV_mem (g : Int → Int → Int) {cs : List (Int × Int)} (h : 0 < cs.length) : peakV g cs ∈ cs := by
  unfold peakV
  cases cs with
  | nil => simp at h
  | cons a t =>
    have key : ∀ (t : List (Int × Int)) (p : Int × Int), t.foldl (fun p x => if g p.1 p.2 < g x.1 x.2 then x else p) p = p ∨ t.foldl (fun p x => if g p.1 p.2 < g x.1 x.2 then x else p) p ∈ t := by
      intro t
      induction t with
      | nil => intro p; exact .inl rfl
      | cons b t ih =>
        intro p
        rw [List.foldl_cons]
        rcases ih (if g p.1 p.2 < g b.1 b.2 then b else p) with h | h
        · rw [h]
          split
          · exact .inr (by simp)
          · exact .inl rfl
        · exact .inr (List.mem_cons_of_mem _ h)
    have hk := key (a :: t) a
    simp only [List.headD_cons]
    rcases hk with h | h
    · rw [h]; simp
    · exact h
/-- What the law reads of the areas of the greater level. -/
structure LevI (g : Int → Int → Int) (level more : Int) (As Bs : List ArA) (n : Nat) : Prop where
  low : ∀ b ∈ Bs, As.any (fun a => subB b.2 a.2) = true
  pos : ∀ b ∈ Bs, 0 < b.2.length
  most : ∀ b ∈ Bs, ∀ x ∈ b.2, level + more ≤ g x.1 x.2 ∧ g x.1 x.2 ≤ g (peakV g b.2).1 (peakV g b.2).2
  sum : (Bs.map fun b => b.2.length).sum = n
theorem levI {g : Int → Int → Int} {level more : Int} {corners : Bool} {P Q : List (Int × Int)} {As Bs : List ArA} (hm : 0 ≤ more)
    (hP : Pls g level P) (hQ : Pls g (level + more) Q) (hA : ∃ Xs : List ((Int × Int) × ArA), Xs.map (·.2) = As ∧ ArS g level true P P.length Xs) (hB : ∃ Xs : List ((Int × Int) × ArA), Xs.map (·.2) = Bs ∧ ArS g (level + more) corners Q Q.length Xs) : LevI g level more As Bs Q.length := by
  obtain ⟨Xs, rfl, hA⟩ := hA
  obtain ⟨Ys, rfl, hB⟩ := hB
  refine ⟨fun b hb => ?_, fun b hb => ?_, fun b hb x hx => ?_, ?_⟩
  · obtain ⟨q, hq, rfl⟩ := List.mem_map.1 hb
    obtain ⟨c, hc, h⟩ := high_low (by omega) hP hQ hA hB q hq
    exact List.any_eq_true.2 ⟨c.2, List.mem_map_of_mem hc, List.all_eq_true.2 fun x hx => decide_eq_true (h x hx)⟩
  · obtain ⟨q, hq, rfl⟩ := List.mem_map.1 hb
    exact (hB.each q hq).pos
  · obtain ⟨q, hq, rfl⟩ := List.mem_map.1 hb
    have h1 := Conn.abv ((hQ.mem _).1 (hB.start_in q hq)) (((hB.each q hq).mem x).1 hx)
    exact ⟨((abv_iff _ _ _ _).1 h1).2, peakV_most g q.2.2 x hx⟩
  · have := hB.sum hQ
    rw [List.map_map]; exact this
/-- The lengths of the first areas together. -/
def sumA (Bs : List ArA) (i : Nat) : Nat := ((Bs.take i).map fun b => b.2.length).sum
theorem sumA_succ {Bs : List ArA} {i : Nat} (h : i < Bs.length) : sumA Bs (i + 1) = sumA Bs i + Bs[i].2.length := by
  unfold sumA
  rw [List.take_succ_eq_append_getElem h, List.map_append, List.sum_append]; simp
theorem sumA_le (Bs : List ArA) : ∀ i, sumA Bs i ≤ (Bs.map fun b => b.2.length).sum := fun i => by
  have : (Bs.map fun b => b.2.length).sum = ((Bs.take i).map fun b => b.2.length).sum + ((Bs.drop i).map fun b => b.2.length).sum := by
    rw [← List.sum_append, ← List.map_append, List.take_append_drop]
  unfold sumA; omega

set_option maxRecDepth 100000 in
set_option maxHeartbeats 4000000 in
/-- The areas of the lesser level (region 8). -/
theorem levReg8 (l : List Sc) (A : Option Addr) (c B : Nat) (level : Int) (corners : Bool) {w : World} {q : Nat} (HL : Hid (∀ w', Below w.heap.size w w' → ScOk l A B w')) (hB : B ≤ w.heap.size) (hle : l.length ≤ c) (hl6 : l.length ≤ 6) (HNIL : Hid (A = none → c = 0)) (HD : Hid (∀ s ∈ l, s.data.length ≤ s.dcap ∧ (s.dA = none → s.dcap = 0))) (HSZ : Hid (∀ s ∈ l, s.data.length ≤ 1000000000)) (HG : Hid (∀ s ∈ l, ScGood s))
    (b4 : Blk w q 24 #[.int .i64 level, .bool corners]) (HLV : Hid (wi level 0 1000000000 = true)) {t1 t2 t3 t5 t6 t7 t8 t9 t10 t11 t12 t13 t14 t15 t16 t17 t18 t19 t20 t21 t22 t23 t24 t25 t26 t27 t28 t29 t30 t31 t32 t33 t34 t35 t36 t37 t38 t39 t40 t41 t42 t43 t44 t45 t46 t47 t48 t49 t50 t51 t52 t53 t54 t55 t56 t57 t58 t59 t60 t61 t62 t63 t64 t65 t66 t67 t68 t69 t70 t71 t72 t73 t74 t75 t76 t77 t78 t79 t80 t81 t82 t83 t84 t85 t86 t87 t88 t89 t90 t91 t92 t93 t94 t95 t96 t97 t98 t99 t100 t101 t102 t103 t104 t105 t106 t107 t108 t109 t110 t111 t112 t113 t114 t115 t116 t117 t118 t119 t120 t121 t122 t123 t124 t125 t126 t127 t128 t129 t130 t131 t132 t133 t134 t135 t136 t137 t138 t139 t140 t141 t142 t143 t144 t145 t146 t147 t148 t149 t150 t151 t152 t153 t154 t155 t156 t157 t158 t159 t160 t161 t162 t163 t164 t165 t166 t167 t168 : Value} {ds : List Deferred} (Q : Exit → Act → World → Prop)
    (h : ∀ (t46 t47 t48 t49 t50 t51 t52 t53 t54 : Value) (A' : Option Addr) (c' B' : Nat) (P : List (Int × Int)) (As : List ArA) (w' : World), AreasA (atV l) level true P As A' B' w' → B' ≤ w'.heap.size → Below w.heap.size w w' → Q .normal ⟨#[.slice A l.length c, t1, t2, t3, .pointer (some ⟨q, 0, none⟩), t5, t6, t7, t8, .slice A' As.length c', .int .i64 0, t11, t12, t13, t14, t15, t16, t17, t18, t19, t20, t21, t22, t23, t24, t25, t26, t27, t28, t29, t30, t31, t32, t33, t34, t35, t36, t37, t38, t39, t40, t41, t42, t43, t44, t45, t46, t47, t48, t49, t50, t51, t52, t53, t54, t55, t56, t57, t58, t59, t60, t61, t62, t63, t64, t65, t66, t67, t68, t69, t70, t71, t72, t73, t74, t75, t76, t77, t78, t79, t80, t81, t82, t83, t84, t85, t86, t87, t88, t89, t90, t91, t92, t93, t94, t95, t96, t97, t98, t99, t100, t101, t102, t103, t104, t105, t106, t107, t108, t109, t110, t111, t112, t113, t114, t115, t116, t117, t118, t119, t120, t121, t122, t123, t124, t125, t126, t127, t128, t129, t130, t131, t132, t133, t134, t135, t136, t137, t138, t139, t140, t141, t142, t143, t144, t145, t146, t147, t148, t149, t150, t151, t152, t153, t154, t155, t156, t157, t158, t159, t160, t161, t162, t163, t164, t165, t166, t167, t168], ds⟩ w') :
    (regOf Tryz.f11 8).wp Tryz.prog Q ⟨#[.slice A l.length c, t1, t2, t3, .pointer (some ⟨q, 0, none⟩), t5, t6, t7, t8, t9, t10, t11, t12, t13, t14, t15, t16, t17, t18, t19, t20, t21, t22, t23, t24, t25, t26, t27, t28, t29, t30, t31, t32, t33, t34, t35, t36, t37, t38, t39, t40, t41, t42, t43, t44, t45, t46, t47, t48, t49, t50, t51, t52, t53, t54, t55, t56, t57, t58, t59, t60, t61, t62, t63, t64, t65, t66, t67, t68, t69, t70, t71, t72, t73, t74, t75, t76, t77, t78, t79, t80, t81, t82, t83, t84, t85, t86, t87, t88, t89, t90, t91, t92, t93, t94, t95, t96, t97, t98, t99, t100, t101, t102, t103, t104, t105, t106, t107, t108, t109, t110, t111, t112, t113, t114, t115, t116, t117, t118, t119, t120, t121, t122, t123, t124, t125, t126, t127, t128, t129, t130, t131, t132, t133, t134, t135, t136, t137, t138, t139, t140, t141, t142, t143, t144, t145, t146, t147, t148, t149, t150, t151, t152, t153, t154, t155, t156, t157, t158, t159, t160, t161, t162, t163, t164, t165, t166, t167, t168], ds⟩ w := by
  have H := Lib.hid h; clear h
  obtain ⟨c0, c1, f4⟩ := blk2c b4
  have l4 := b4.lt
  conv in (regOf _ _) => whnf
  refine wp_region_w (Gr _) (by kernel_rfl) (Below.refl _ _).drew ?_
  refine wpW_det (t' := ?ct0R73) 0 (by rfl) (by kernel_rfl) (NQ_free _) (by kernel_rfl) ?cw0R73 ?ch0R73 ?ca0R73 (Eq.refl _) ?cH0R73
  case cw0R73 => (go_simp; done)
  case ch0R73 =>
    intro ds w' hS K hK
    have hc := (bcell hS).1
    have hf := (bcell hS).2
    have hz := hS.size
    try simp at hz
    go_simp
    try go_bits
    first
      | exact hK _ hS (Gr.refl _)
      | exact hK _ (by repeat (first | (with_reducible exact Below.refl _ _) | (with_reducible assumption) | ((with_reducible refine Below.setCell ?_ ?_ _); rotate_left; · (first | exact Nat.le_refl _ | (simp; done) | (simp; omega) | omega)) | ((with_reducible refine Below.alloc ?_ ?_ _); rotate_left; · (first | exact Nat.le_refl _ | (simp; done) | (simp; omega) | omega)) | (with_reducible apply Below.drew) | (with_reducible apply below_drewN') | (refine Below.trans ?_ (Below.mono (by assumption) (by first | exact Nat.le_refl _ | (simp; done) | (simp; omega) | omega))) | exact Below.refl _ _ | assumption)) (by repeat (first | (with_reducible exact Below.refl _ _) | (with_reducible assumption) | ((with_reducible refine Below.setCell ?_ ?_ _); rotate_left; · (first | exact Nat.le_refl _ | (simp; done) | (simp; omega) | omega)) | ((with_reducible refine Below.alloc ?_ ?_ _); rotate_left; · (first | exact Nat.le_refl _ | (simp; done) | (simp; omega) | omega)) | (with_reducible apply Below.drew) | (with_reducible apply below_drewN') | (refine Below.trans ?_ (Below.mono (by assumption) (by first | exact Nat.le_refl _ | (simp; done) | (simp; omega) | omega))) | exact Below.refl _ _ | assumption))
  case ca0R73 => (first | (simp [Act.put]; done) | (simp [Act.put, *]; done))
  try dsimp only
  refine wpW_det (t' := ?ct2R73) 2 (by rfl) (by kernel_rfl) (NQ_free _) (by kernel_rfl) ?cw2R73 ?ch2R73 ?ca2R73 (Eq.refl _) ?cH2R73
  case cw2R73 => (go_simp; done)
  case ch2R73 =>
    intro ds w' hS K hK
    have hc := (bcell hS).1
    have hf := (bcell hS).2
    have hz := hS.size
    try simp at hz
    go_simp
    try go_bits
    first
      | exact hK _ hS (Gr.refl _)
      | exact hK _ (by repeat (first | (with_reducible exact Below.refl _ _) | (with_reducible assumption) | ((with_reducible refine Below.setCell ?_ ?_ _); rotate_left; · (first | exact Nat.le_refl _ | (simp; done) | (simp; omega) | omega)) | ((with_reducible refine Below.alloc ?_ ?_ _); rotate_left; · (first | exact Nat.le_refl _ | (simp; done) | (simp; omega) | omega)) | (with_reducible apply Below.drew) | (with_reducible apply below_drewN') | (refine Below.trans ?_ (Below.mono (by assumption) (by first | exact Nat.le_refl _ | (simp; done) | (simp; omega) | omega))) | exact Below.refl _ _ | assumption)) (by repeat (first | (with_reducible exact Below.refl _ _) | (with_reducible assumption) | ((with_reducible refine Below.setCell ?_ ?_ _); rotate_left; · (first | exact Nat.le_refl _ | (simp; done) | (simp; omega) | omega)) | ((with_reducible refine Below.alloc ?_ ?_ _); rotate_left; · (first | exact Nat.le_refl _ | (simp; done) | (simp; omega) | omega)) | (with_reducible apply Below.drew) | (with_reducible apply below_drewN') | (refine Below.trans ?_ (Below.mono (by assumption) (by first | exact Nat.le_refl _ | (simp; done) | (simp; omega) | omega))) | exact Below.refl _ _ | assumption))
  case ca2R73 => (first | (simp [Act.put]; done) | (simp [Act.put, *]; done))
  try dsimp only
  refine wpW_det (t' := ?ct3R73) 3 (by rfl) (by kernel_rfl) (NQ_free _) (by kernel_rfl) ?cw3R73 ?ch3R73 ?ca3R73 (Eq.refl _) ?cH3R73
  case cw3R73 => (go_simp; done)
  case ch3R73 =>
    intro ds w' hS K hK
    have hc := (bcell hS).1
    have hf := (bcell hS).2
    have hz := hS.size
    try simp at hz
    go_simp
    try go_bits
    first
      | exact hK _ hS (Gr.refl _)
      | exact hK _ (by repeat (first | (with_reducible exact Below.refl _ _) | (with_reducible assumption) | ((with_reducible refine Below.setCell ?_ ?_ _); rotate_left; · (first | exact Nat.le_refl _ | (simp; done) | (simp; omega) | omega)) | ((with_reducible refine Below.alloc ?_ ?_ _); rotate_left; · (first | exact Nat.le_refl _ | (simp; done) | (simp; omega) | omega)) | (with_reducible apply Below.drew) | (with_reducible apply below_drewN') | (refine Below.trans ?_ (Below.mono (by assumption) (by first | exact Nat.le_refl _ | (simp; done) | (simp; omega) | omega))) | exact Below.refl _ _ | assumption)) (by repeat (first | (with_reducible exact Below.refl _ _) | (with_reducible assumption) | ((with_reducible refine Below.setCell ?_ ?_ _); rotate_left; · (first | exact Nat.le_refl _ | (simp; done) | (simp; omega) | omega)) | ((with_reducible refine Below.alloc ?_ ?_ _); rotate_left; · (first | exact Nat.le_refl _ | (simp; done) | (simp; omega) | omega)) | (with_reducible apply Below.drew) | (with_reducible apply below_drewN') | (refine Below.trans ?_ (Below.mono (by assumption) (by first | exact Nat.le_refl _ | (simp; done) | (simp; omega) | omega))) | exact Below.refl _ _ | assumption))
  case ca3R73 => (first | (simp [Act.put]; done) | (simp [Act.put, *]; done))
  try dsimp only
  refine wpW_det (t' := ?ct4R73) 4 (by rfl) (by kernel_rfl) (NQ_free _) (by kernel_rfl) ?cw4R73 ?ch4R73 ?ca4R73 (Eq.refl _) ?cH4R73
  case cw4R73 => (go_simp; done)
  case ch4R73 =>
    intro ds w' hS K hK
    have hc := (bcell hS).1
    have hf := (bcell hS).2
    have hz := hS.size
    try simp at hz
    go_simp
    try go_bits
    first
      | exact hK _ hS (Gr.refl _)
      | exact hK _ (by repeat (first | (with_reducible exact Below.refl _ _) | (with_reducible assumption) | ((with_reducible refine Below.setCell ?_ ?_ _); rotate_left; · (first | exact Nat.le_refl _ | (simp; done) | (simp; omega) | omega)) | ((with_reducible refine Below.alloc ?_ ?_ _); rotate_left; · (first | exact Nat.le_refl _ | (simp; done) | (simp; omega) | omega)) | (with_reducible apply Below.drew) | (with_reducible apply below_drewN') | (refine Below.trans ?_ (Below.mono (by assumption) (by first | exact Nat.le_refl _ | (simp; done) | (simp; omega) | omega))) | exact Below.refl _ _ | assumption)) (by repeat (first | (with_reducible exact Below.refl _ _) | (with_reducible assumption) | ((with_reducible refine Below.setCell ?_ ?_ _); rotate_left; · (first | exact Nat.le_refl _ | (simp; done) | (simp; omega) | omega)) | ((with_reducible refine Below.alloc ?_ ?_ _); rotate_left; · (first | exact Nat.le_refl _ | (simp; done) | (simp; omega) | omega)) | (with_reducible apply Below.drew) | (with_reducible apply below_drewN') | (refine Below.trans ?_ (Below.mono (by assumption) (by first | exact Nat.le_refl _ | (simp; done) | (simp; omega) | omega))) | exact Below.refl _ _ | assumption))
  case ca4R73 => (first | (simp [Act.put]; done) | (simp [Act.put, *]; done))
  try dsimp only
  refine wpW_branch [1] (by kernel_rfl) (by simp) ?_
  intro v1 hg_v1 hS_v1
  refine each_cons ?_ each_nil
  refine wpOp_go (by rfl) (Eq.refl _) (by go_simp; done) ?_
  intro K hK
  go_simp
  try simp only [Act.put]
  refine (copyScans_any l A c B _ (HL.out _ hS_v1) hle (by have := Below.size hS_v1; omega) HNIL.out HD).mono ?_
  rintro e ws1 ⟨v2, L2, rfl, hc2, own2, each2, hBs⟩
  obtain ⟨A2, c2, rfl, hl2⟩ := copiedS hc2 own2 each2 (by omega) HSZ.out
  refine hK _ _ (Below.trans hS_v1 (hBs.mono (Below.size hS_v1))) ?_
  clear hK K own2 each2 hBs
  refine wpW_branch [5] (by kernel_rfl) (by simp) ?_
  intro v2 hg_v2 hS_v2
  refine each_cons ?_ each_nil
  refine wpOp_go (by rfl) (Eq.refl _) (by go_simp; done) ?_
  intro K hK
  go_simp
  try simp only [Act.put]
  refine (areasCopy l L2 A2 c2 _ level true _ hc2 (hl2.below hg_v2 (Nat.le_refl _)) (Below.size hg_v2) HG.out hl6 HLV.out).mono ?_
  rintro e ws2 ⟨A', c', P, As, rfl, hA, hBs⟩
  refine hK _ _ (Below.trans hS_v2 (hBs.mono (Below.size hS_v2))) ?_
  clear hK K hBs hl2
  refine wpW_det (t' := ?ct6R74) 6 (by rfl) (by kernel_rfl) (NQ_free _) (by kernel_rfl) ?cw6R74 ?ch6R74 ?ca6R74 (Eq.refl _) ?cH6R74
  case cw6R74 => (go_simp; done)
  case ch6R74 =>
    intro ds w' hS K hK
    have hc := (bcell hS).1
    have hf := (bcell hS).2
    have hz := hS.size
    try simp at hz
    go_simp
    try go_bits
    first
      | exact hK _ hS (Gr.refl _)
      | exact hK _ (by repeat (first | (with_reducible exact Below.refl _ _) | (with_reducible assumption) | ((with_reducible refine Below.setCell ?_ ?_ _); rotate_left; · (first | exact Nat.le_refl _ | (simp; done) | (simp; omega) | omega)) | ((with_reducible refine Below.alloc ?_ ?_ _); rotate_left; · (first | exact Nat.le_refl _ | (simp; done) | (simp; omega) | omega)) | (with_reducible apply Below.drew) | (with_reducible apply below_drewN') | (refine Below.trans ?_ (Below.mono (by assumption) (by first | exact Nat.le_refl _ | (simp; done) | (simp; omega) | omega))) | exact Below.refl _ _ | assumption)) (by repeat (first | (with_reducible exact Below.refl _ _) | (with_reducible assumption) | ((with_reducible refine Below.setCell ?_ ?_ _); rotate_left; · (first | exact Nat.le_refl _ | (simp; done) | (simp; omega) | omega)) | ((with_reducible refine Below.alloc ?_ ?_ _); rotate_left; · (first | exact Nat.le_refl _ | (simp; done) | (simp; omega) | omega)) | (with_reducible apply Below.drew) | (with_reducible apply below_drewN') | (refine Below.trans ?_ (Below.mono (by assumption) (by first | exact Nat.le_refl _ | (simp; done) | (simp; omega) | omega))) | exact Below.refl _ _ | assumption))
  case ca6R74 => (first | (simp [Act.put]; done) | (simp [Act.put, *]; done))
  try dsimp only
  refine wpW_det (t' := ?ct7R74) 7 (by rfl) (by kernel_rfl) (NQ_free _) (by kernel_rfl) ?cw7R74 ?ch7R74 ?ca7R74 (Eq.refl _) ?cH7R74
  case cw7R74 => (go_simp; done)
  case ch7R74 =>
    intro ds w' hS K hK
    have hc := (bcell hS).1
    have hf := (bcell hS).2
    have hz := hS.size
    try simp at hz
    go_simp
    try go_bits
    first
      | exact hK _ hS (Gr.refl _)
      | exact hK _ (by repeat (first | (with_reducible exact Below.refl _ _) | (with_reducible assumption) | ((with_reducible refine Below.setCell ?_ ?_ _); rotate_left; · (first | exact Nat.le_refl _ | (simp; done) | (simp; omega) | omega)) | ((with_reducible refine Below.alloc ?_ ?_ _); rotate_left; · (first | exact Nat.le_refl _ | (simp; done) | (simp; omega) | omega)) | (with_reducible apply Below.drew) | (with_reducible apply below_drewN') | (refine Below.trans ?_ (Below.mono (by assumption) (by first | exact Nat.le_refl _ | (simp; done) | (simp; omega) | omega))) | exact Below.refl _ _ | assumption)) (by repeat (first | (with_reducible exact Below.refl _ _) | (with_reducible assumption) | ((with_reducible refine Below.setCell ?_ ?_ _); rotate_left; · (first | exact Nat.le_refl _ | (simp; done) | (simp; omega) | omega)) | ((with_reducible refine Below.alloc ?_ ?_ _); rotate_left; · (first | exact Nat.le_refl _ | (simp; done) | (simp; omega) | omega)) | (with_reducible apply Below.drew) | (with_reducible apply below_drewN') | (refine Below.trans ?_ (Below.mono (by assumption) (by first | exact Nat.le_refl _ | (simp; done) | (simp; omega) | omega))) | exact Below.refl _ _ | assumption))
  case ca7R74 => (first | (simp [Act.put]; done) | (simp [Act.put, *]; done))
  try dsimp only
  refine wpW_det (t' := ?ct8R74) 8 (by rfl) (by kernel_rfl) (NQ_free _) (by kernel_rfl) ?cw8R74 ?ch8R74 ?ca8R74 (Eq.refl _) ?cH8R74
  case cw8R74 => (go_simp; done)
  case ch8R74 =>
    intro ds w' hS K hK
    have hc := (bcell hS).1
    have hf := (bcell hS).2
    have hz := hS.size
    try simp at hz
    go_simp
    try go_bits
    first
      | exact hK _ hS (Gr.refl _)
      | exact hK _ (by repeat (first | (with_reducible exact Below.refl _ _) | (with_reducible assumption) | ((with_reducible refine Below.setCell ?_ ?_ _); rotate_left; · (first | exact Nat.le_refl _ | (simp; done) | (simp; omega) | omega)) | ((with_reducible refine Below.alloc ?_ ?_ _); rotate_left; · (first | exact Nat.le_refl _ | (simp; done) | (simp; omega) | omega)) | (with_reducible apply Below.drew) | (with_reducible apply below_drewN') | (refine Below.trans ?_ (Below.mono (by assumption) (by first | exact Nat.le_refl _ | (simp; done) | (simp; omega) | omega))) | exact Below.refl _ _ | assumption)) (by repeat (first | (with_reducible exact Below.refl _ _) | (with_reducible assumption) | ((with_reducible refine Below.setCell ?_ ?_ _); rotate_left; · (first | exact Nat.le_refl _ | (simp; done) | (simp; omega) | omega)) | ((with_reducible refine Below.alloc ?_ ?_ _); rotate_left; · (first | exact Nat.le_refl _ | (simp; done) | (simp; omega) | omega)) | (with_reducible apply Below.drew) | (with_reducible apply below_drewN') | (refine Below.trans ?_ (Below.mono (by assumption) (by first | exact Nat.le_refl _ | (simp; done) | (simp; omega) | omega))) | exact Below.refl _ _ | assumption))
  case ca8R74 => (first | (simp [Act.put]; done) | (simp [Act.put, *]; done))
  try dsimp only
  refine wpW_det (t' := ?ct9R74) 9 (by rfl) (by kernel_rfl) (NQ_free _) (by kernel_rfl) ?cw9R74 ?ch9R74 ?ca9R74 (Eq.refl _) ?cH9R74
  case cw9R74 => (go_simp; done)
  case ch9R74 =>
    intro ds w' hS K hK
    have hc := (bcell hS).1
    have hf := (bcell hS).2
    have hz := hS.size
    try simp at hz
    go_simp
    try go_bits
    first
      | exact hK _ hS (Gr.refl _)
      | exact hK _ (by repeat (first | (with_reducible exact Below.refl _ _) | (with_reducible assumption) | ((with_reducible refine Below.setCell ?_ ?_ _); rotate_left; · (first | exact Nat.le_refl _ | (simp; done) | (simp; omega) | omega)) | ((with_reducible refine Below.alloc ?_ ?_ _); rotate_left; · (first | exact Nat.le_refl _ | (simp; done) | (simp; omega) | omega)) | (with_reducible apply Below.drew) | (with_reducible apply below_drewN') | (refine Below.trans ?_ (Below.mono (by assumption) (by first | exact Nat.le_refl _ | (simp; done) | (simp; omega) | omega))) | exact Below.refl _ _ | assumption)) (by repeat (first | (with_reducible exact Below.refl _ _) | (with_reducible assumption) | ((with_reducible refine Below.setCell ?_ ?_ _); rotate_left; · (first | exact Nat.le_refl _ | (simp; done) | (simp; omega) | omega)) | ((with_reducible refine Below.alloc ?_ ?_ _); rotate_left; · (first | exact Nat.le_refl _ | (simp; done) | (simp; omega) | omega)) | (with_reducible apply Below.drew) | (with_reducible apply below_drewN') | (refine Below.trans ?_ (Below.mono (by assumption) (by first | exact Nat.le_refl _ | (simp; done) | (simp; omega) | omega))) | exact Below.refl _ _ | assumption))
  case ca9R74 => (first | (simp [Act.put]; done) | (simp [Act.put, *]; done))
  try dsimp only
  refine wpW_det (t' := ?ct10R74) 10 (by rfl) (by kernel_rfl) (NQ_free _) (by kernel_rfl) ?cw10R74 ?ch10R74 ?ca10R74 (Eq.refl _) ?cH10R74
  case cw10R74 => (go_simp; done)
  case ch10R74 =>
    intro ds w' hS K hK
    have hc := (bcell hS).1
    have hf := (bcell hS).2
    have hz := hS.size
    try simp at hz
    go_simp
    try go_bits
    first
      | exact hK _ hS (Gr.refl _)
      | exact hK _ (by repeat (first | (with_reducible exact Below.refl _ _) | (with_reducible assumption) | ((with_reducible refine Below.setCell ?_ ?_ _); rotate_left; · (first | exact Nat.le_refl _ | (simp; done) | (simp; omega) | omega)) | ((with_reducible refine Below.alloc ?_ ?_ _); rotate_left; · (first | exact Nat.le_refl _ | (simp; done) | (simp; omega) | omega)) | (with_reducible apply Below.drew) | (with_reducible apply below_drewN') | (refine Below.trans ?_ (Below.mono (by assumption) (by first | exact Nat.le_refl _ | (simp; done) | (simp; omega) | omega))) | exact Below.refl _ _ | assumption)) (by repeat (first | (with_reducible exact Below.refl _ _) | (with_reducible assumption) | ((with_reducible refine Below.setCell ?_ ?_ _); rotate_left; · (first | exact Nat.le_refl _ | (simp; done) | (simp; omega) | omega)) | ((with_reducible refine Below.alloc ?_ ?_ _); rotate_left; · (first | exact Nat.le_refl _ | (simp; done) | (simp; omega) | omega)) | (with_reducible apply Below.drew) | (with_reducible apply below_drewN') | (refine Below.trans ?_ (Below.mono (by assumption) (by first | exact Nat.le_refl _ | (simp; done) | (simp; omega) | omega))) | exact Below.refl _ _ | assumption))
  case ca10R74 => (first | (simp [Act.put]; done) | (simp [Act.put, *]; done))
  try dsimp only
  refine wpW_end (by kernel_rfl) ?_
  intro we hg hS
  unfold NQ
  dsimp only
  exact H.out _ _ _ _ _ _ _ _ _ A' c' _ P As we (hA.below hg (Nat.le_refl _)) (Below.size hg) hS

set_option maxRecDepth 100000 in
set_option maxHeartbeats 4000000 in
/-- The areas of the greater level (region 9). -/
theorem levReg9 (l : List Sc) (A : Option Addr) (c B : Nat) (level more : Int) (corners : Bool) {w : World} {q : Nat} (HL : Hid (∀ w', Below w.heap.size w w' → ScOk l A B w')) (hB : B ≤ w.heap.size) (hle : l.length ≤ c) (hl6 : l.length ≤ 6) (HNIL : Hid (A = none → c = 0)) (HD : Hid (∀ s ∈ l, s.data.length ≤ s.dcap ∧ (s.dA = none → s.dcap = 0))) (HSZ : Hid (∀ s ∈ l, s.data.length ≤ 1000000000)) (HG : Hid (∀ s ∈ l, ScGood s))
    (b4 : Blk w q 24 #[.int .i64 level, .bool corners]) (hlv : 0 ≤ level ∧ level ≤ 1000000000) (hm : 0 ≤ more ∧ more ≤ 1000000000 - level) {t1 t3 t5 t6 t7 t8 t9 t10 t11 t12 t13 t14 t15 t16 t17 t18 t19 t20 t21 t22 t23 t24 t25 t26 t27 t28 t29 t30 t31 t32 t33 t34 t35 t36 t37 t38 t39 t40 t41 t42 t43 t44 t45 t46 t47 t48 t49 t50 t51 t52 t53 t54 t55 t56 t57 t58 t59 t60 t61 t62 t63 t64 t65 t66 t67 t68 t69 t70 t71 t72 t73 t74 t75 t76 t77 t78 t79 t80 t81 t82 t83 t84 t85 t86 t87 t88 t89 t90 t91 t92 t93 t94 t95 t96 t97 t98 t99 t100 t101 t102 t103 t104 t105 t106 t107 t108 t109 t110 t111 t112 t113 t114 t115 t116 t117 t118 t119 t120 t121 t122 t123 t124 t125 t126 t127 t128 t129 t130 t131 t132 t133 t134 t135 t136 t137 t138 t139 t140 t141 t142 t143 t144 t145 t146 t147 t148 t149 t150 t151 t152 t153 t154 t155 t156 t157 t158 t159 t160 t161 t162 t163 t164 t165 t166 t167 t168 : Value} {ds : List Deferred} (Q : Exit → Act → World → Prop)
    (h : ∀ (t55 t56 t57 t58 t59 t60 t61 t62 t63 t64 t65 t66 t67 : Value) (A' : Option Addr) (c' B' : Nat) (P : List (Int × Int)) (As : List ArA) (w' : World), AreasA (atV l) (level + more) corners P As A' B' w' → B' ≤ w'.heap.size → Below w.heap.size w w' → Q .normal ⟨#[.slice A l.length c, t1, .int .i64 more, t3, .pointer (some ⟨q, 0, none⟩), t5, t6, t7, t8, t9, t10, .slice A' As.length c', .int .i64 0, t13, t14, t15, t16, t17, t18, t19, t20, t21, t22, t23, t24, t25, t26, t27, t28, t29, t30, t31, t32, t33, t34, t35, t36, t37, t38, t39, t40, t41, t42, t43, t44, t45, t46, t47, t48, t49, t50, t51, t52, t53, t54, t55, t56, t57, t58, t59, t60, t61, t62, t63, t64, t65, t66, t67, t68, t69, t70, t71, t72, t73, t74, t75, t76, t77, t78, t79, t80, t81, t82, t83, t84, t85, t86, t87, t88, t89, t90, t91, t92, t93, t94, t95, t96, t97, t98, t99, t100, t101, t102, t103, t104, t105, t106, t107, t108, t109, t110, t111, t112, t113, t114, t115, t116, t117, t118, t119, t120, t121, t122, t123, t124, t125, t126, t127, t128, t129, t130, t131, t132, t133, t134, t135, t136, t137, t138, t139, t140, t141, t142, t143, t144, t145, t146, t147, t148, t149, t150, t151, t152, t153, t154, t155, t156, t157, t158, t159, t160, t161, t162, t163, t164, t165, t166, t167, t168], ds⟩ w') :
    (regOf Tryz.f11 9).wp Tryz.prog Q ⟨#[.slice A l.length c, t1, .int .i64 more, t3, .pointer (some ⟨q, 0, none⟩), t5, t6, t7, t8, t9, t10, t11, t12, t13, t14, t15, t16, t17, t18, t19, t20, t21, t22, t23, t24, t25, t26, t27, t28, t29, t30, t31, t32, t33, t34, t35, t36, t37, t38, t39, t40, t41, t42, t43, t44, t45, t46, t47, t48, t49, t50, t51, t52, t53, t54, t55, t56, t57, t58, t59, t60, t61, t62, t63, t64, t65, t66, t67, t68, t69, t70, t71, t72, t73, t74, t75, t76, t77, t78, t79, t80, t81, t82, t83, t84, t85, t86, t87, t88, t89, t90, t91, t92, t93, t94, t95, t96, t97, t98, t99, t100, t101, t102, t103, t104, t105, t106, t107, t108, t109, t110, t111, t112, t113, t114, t115, t116, t117, t118, t119, t120, t121, t122, t123, t124, t125, t126, t127, t128, t129, t130, t131, t132, t133, t134, t135, t136, t137, t138, t139, t140, t141, t142, t143, t144, t145, t146, t147, t148, t149, t150, t151, t152, t153, t154, t155, t156, t157, t158, t159, t160, t161, t162, t163, t164, t165, t166, t167, t168], ds⟩ w := by
  have H := Lib.hid h; clear h
  have HLV : Hid (wi (level + more) 0 1000000000 = true) := Lib.hid (by simp [wi]; omega)
  obtain ⟨c0, c1, f4⟩ := blk2c b4
  have l4 := b4.lt
  conv in (regOf _ _) => whnf
  refine wp_region_w (Gr _) (by kernel_rfl) (Below.refl _ _).drew ?_
  refine wpW_det (t' := ?ct0R75) 0 (by rfl) (by kernel_rfl) (NQ_free _) (by kernel_rfl) ?cw0R75 ?ch0R75 ?ca0R75 (Eq.refl _) ?cH0R75
  case cw0R75 => (go_simp; done)
  case ch0R75 =>
    intro ds w' hS K hK
    have hc := (bcell hS).1
    have hf := (bcell hS).2
    have hz := hS.size
    try simp at hz
    go_simp
    try go_bits
    first
      | exact hK _ hS (Gr.refl _)
      | exact hK _ (by repeat (first | (with_reducible exact Below.refl _ _) | (with_reducible assumption) | ((with_reducible refine Below.setCell ?_ ?_ _); rotate_left; · (first | exact Nat.le_refl _ | (simp; done) | (simp; omega) | omega)) | ((with_reducible refine Below.alloc ?_ ?_ _); rotate_left; · (first | exact Nat.le_refl _ | (simp; done) | (simp; omega) | omega)) | (with_reducible apply Below.drew) | (with_reducible apply below_drewN') | (refine Below.trans ?_ (Below.mono (by assumption) (by first | exact Nat.le_refl _ | (simp; done) | (simp; omega) | omega))) | exact Below.refl _ _ | assumption)) (by repeat (first | (with_reducible exact Below.refl _ _) | (with_reducible assumption) | ((with_reducible refine Below.setCell ?_ ?_ _); rotate_left; · (first | exact Nat.le_refl _ | (simp; done) | (simp; omega) | omega)) | ((with_reducible refine Below.alloc ?_ ?_ _); rotate_left; · (first | exact Nat.le_refl _ | (simp; done) | (simp; omega) | omega)) | (with_reducible apply Below.drew) | (with_reducible apply below_drewN') | (refine Below.trans ?_ (Below.mono (by assumption) (by first | exact Nat.le_refl _ | (simp; done) | (simp; omega) | omega))) | exact Below.refl _ _ | assumption))
  case ca0R75 => (first | (simp [Act.put]; done) | (simp [Act.put, *]; done))
  try dsimp only
  refine wpW_det (t' := ?ct2R75) 2 (by rfl) (by kernel_rfl) (NQ_free _) (by kernel_rfl) ?cw2R75 ?ch2R75 ?ca2R75 (Eq.refl _) ?cH2R75
  case cw2R75 => (go_simp; done)
  case ch2R75 =>
    intro ds w' hS K hK
    have hc := (bcell hS).1
    have hf := (bcell hS).2
    have hz := hS.size
    try simp at hz
    go_simp
    try go_bits
    first
      | exact hK _ hS (Gr.refl _)
      | exact hK _ (by repeat (first | (with_reducible exact Below.refl _ _) | (with_reducible assumption) | ((with_reducible refine Below.setCell ?_ ?_ _); rotate_left; · (first | exact Nat.le_refl _ | (simp; done) | (simp; omega) | omega)) | ((with_reducible refine Below.alloc ?_ ?_ _); rotate_left; · (first | exact Nat.le_refl _ | (simp; done) | (simp; omega) | omega)) | (with_reducible apply Below.drew) | (with_reducible apply below_drewN') | (refine Below.trans ?_ (Below.mono (by assumption) (by first | exact Nat.le_refl _ | (simp; done) | (simp; omega) | omega))) | exact Below.refl _ _ | assumption)) (by repeat (first | (with_reducible exact Below.refl _ _) | (with_reducible assumption) | ((with_reducible refine Below.setCell ?_ ?_ _); rotate_left; · (first | exact Nat.le_refl _ | (simp; done) | (simp; omega) | omega)) | ((with_reducible refine Below.alloc ?_ ?_ _); rotate_left; · (first | exact Nat.le_refl _ | (simp; done) | (simp; omega) | omega)) | (with_reducible apply Below.drew) | (with_reducible apply below_drewN') | (refine Below.trans ?_ (Below.mono (by assumption) (by first | exact Nat.le_refl _ | (simp; done) | (simp; omega) | omega))) | exact Below.refl _ _ | assumption))
  case ca2R75 => (first | (simp [Act.put]; done) | (simp [Act.put, *]; done))
  try dsimp only
  refine wpW_det (t' := ?ct3R75) 3 (by rfl) (by kernel_rfl) (NQ_free _) (by kernel_rfl) ?cw3R75 ?ch3R75 ?ca3R75 (Eq.refl _) ?cH3R75
  case cw3R75 => (go_simp; done)
  case ch3R75 =>
    intro ds w' hS K hK
    have hc := (bcell hS).1
    have hf := (bcell hS).2
    have hz := hS.size
    try simp at hz
    go_simp
    try go_bits
    first
      | exact hK _ hS (Gr.refl _)
      | exact hK _ (by repeat (first | (with_reducible exact Below.refl _ _) | (with_reducible assumption) | ((with_reducible refine Below.setCell ?_ ?_ _); rotate_left; · (first | exact Nat.le_refl _ | (simp; done) | (simp; omega) | omega)) | ((with_reducible refine Below.alloc ?_ ?_ _); rotate_left; · (first | exact Nat.le_refl _ | (simp; done) | (simp; omega) | omega)) | (with_reducible apply Below.drew) | (with_reducible apply below_drewN') | (refine Below.trans ?_ (Below.mono (by assumption) (by first | exact Nat.le_refl _ | (simp; done) | (simp; omega) | omega))) | exact Below.refl _ _ | assumption)) (by repeat (first | (with_reducible exact Below.refl _ _) | (with_reducible assumption) | ((with_reducible refine Below.setCell ?_ ?_ _); rotate_left; · (first | exact Nat.le_refl _ | (simp; done) | (simp; omega) | omega)) | ((with_reducible refine Below.alloc ?_ ?_ _); rotate_left; · (first | exact Nat.le_refl _ | (simp; done) | (simp; omega) | omega)) | (with_reducible apply Below.drew) | (with_reducible apply below_drewN') | (refine Below.trans ?_ (Below.mono (by assumption) (by first | exact Nat.le_refl _ | (simp; done) | (simp; omega) | omega))) | exact Below.refl _ _ | assumption))
  case ca3R75 => (first | (simp [Act.put]; done) | (simp [Act.put, *]; done))
  try dsimp only
  refine wpW_det (t' := ?ct4R75) 4 (by rfl) (by kernel_rfl) (NQ_free _) (by kernel_rfl) ?cw4R75 ?ch4R75 ?ca4R75 (Eq.refl _) ?cH4R75
  case cw4R75 => (go_simp; done)
  case ch4R75 =>
    intro ds w' hS K hK
    have hc := (bcell hS).1
    have hf := (bcell hS).2
    have hz := hS.size
    try simp at hz
    go_simp
    try go_bits
    first
      | exact hK _ hS (Gr.refl _)
      | exact hK _ (by repeat (first | (with_reducible exact Below.refl _ _) | (with_reducible assumption) | ((with_reducible refine Below.setCell ?_ ?_ _); rotate_left; · (first | exact Nat.le_refl _ | (simp; done) | (simp; omega) | omega)) | ((with_reducible refine Below.alloc ?_ ?_ _); rotate_left; · (first | exact Nat.le_refl _ | (simp; done) | (simp; omega) | omega)) | (with_reducible apply Below.drew) | (with_reducible apply below_drewN') | (refine Below.trans ?_ (Below.mono (by assumption) (by first | exact Nat.le_refl _ | (simp; done) | (simp; omega) | omega))) | exact Below.refl _ _ | assumption)) (by repeat (first | (with_reducible exact Below.refl _ _) | (with_reducible assumption) | ((with_reducible refine Below.setCell ?_ ?_ _); rotate_left; · (first | exact Nat.le_refl _ | (simp; done) | (simp; omega) | omega)) | ((with_reducible refine Below.alloc ?_ ?_ _); rotate_left; · (first | exact Nat.le_refl _ | (simp; done) | (simp; omega) | omega)) | (with_reducible apply Below.drew) | (with_reducible apply below_drewN') | (refine Below.trans ?_ (Below.mono (by assumption) (by first | exact Nat.le_refl _ | (simp; done) | (simp; omega) | omega))) | exact Below.refl _ _ | assumption))
  case ca4R75 => (first | (simp [Act.put]; done) | (simp [Act.put, *]; done))
  try dsimp only
  refine wpW_det (t' := ?ct5R75) 5 (by rfl) (by kernel_rfl) (NQ_free _) (by kernel_rfl) ?cw5R75 ?ch5R75 ?ca5R75 (Eq.refl _) ?cH5R75
  case cw5R75 => (go_simp; done)
  case ch5R75 =>
    intro ds w' hS K hK
    have hc := (bcell hS).1
    have hf := (bcell hS).2
    have hz := hS.size
    try simp at hz
    go_simp
    try go_bits
    first
      | exact hK _ hS (Gr.refl _)
      | exact hK _ (by repeat (first | (with_reducible exact Below.refl _ _) | (with_reducible assumption) | ((with_reducible refine Below.setCell ?_ ?_ _); rotate_left; · (first | exact Nat.le_refl _ | (simp; done) | (simp; omega) | omega)) | ((with_reducible refine Below.alloc ?_ ?_ _); rotate_left; · (first | exact Nat.le_refl _ | (simp; done) | (simp; omega) | omega)) | (with_reducible apply Below.drew) | (with_reducible apply below_drewN') | (refine Below.trans ?_ (Below.mono (by assumption) (by first | exact Nat.le_refl _ | (simp; done) | (simp; omega) | omega))) | exact Below.refl _ _ | assumption)) (by repeat (first | (with_reducible exact Below.refl _ _) | (with_reducible assumption) | ((with_reducible refine Below.setCell ?_ ?_ _); rotate_left; · (first | exact Nat.le_refl _ | (simp; done) | (simp; omega) | omega)) | ((with_reducible refine Below.alloc ?_ ?_ _); rotate_left; · (first | exact Nat.le_refl _ | (simp; done) | (simp; omega) | omega)) | (with_reducible apply Below.drew) | (with_reducible apply below_drewN') | (refine Below.trans ?_ (Below.mono (by assumption) (by first | exact Nat.le_refl _ | (simp; done) | (simp; omega) | omega))) | exact Below.refl _ _ | assumption))
  case ca5R75 => (first | (simp [Act.put]; done) | (simp [Act.put, *]; done))
  try dsimp only
  refine wpW_det (t' := ?ct6R75) 6 (by rfl) (by kernel_rfl) (NQ_free _) (by kernel_rfl) ?cw6R75 ?ch6R75 ?ca6R75 (Eq.refl _) ?cH6R75
  case cw6R75 => (go_simp; done)
  case ch6R75 =>
    intro ds w' hS K hK
    have hc := (bcell hS).1
    have hf := (bcell hS).2
    have hz := hS.size
    try simp at hz
    go_simp
    try go_bits
    first
      | exact hK _ hS (Gr.refl _)
      | exact hK _ (by repeat (first | (with_reducible exact Below.refl _ _) | (with_reducible assumption) | ((with_reducible refine Below.setCell ?_ ?_ _); rotate_left; · (first | exact Nat.le_refl _ | (simp; done) | (simp; omega) | omega)) | ((with_reducible refine Below.alloc ?_ ?_ _); rotate_left; · (first | exact Nat.le_refl _ | (simp; done) | (simp; omega) | omega)) | (with_reducible apply Below.drew) | (with_reducible apply below_drewN') | (refine Below.trans ?_ (Below.mono (by assumption) (by first | exact Nat.le_refl _ | (simp; done) | (simp; omega) | omega))) | exact Below.refl _ _ | assumption)) (by repeat (first | (with_reducible exact Below.refl _ _) | (with_reducible assumption) | ((with_reducible refine Below.setCell ?_ ?_ _); rotate_left; · (first | exact Nat.le_refl _ | (simp; done) | (simp; omega) | omega)) | ((with_reducible refine Below.alloc ?_ ?_ _); rotate_left; · (first | exact Nat.le_refl _ | (simp; done) | (simp; omega) | omega)) | (with_reducible apply Below.drew) | (with_reducible apply below_drewN') | (refine Below.trans ?_ (Below.mono (by assumption) (by first | exact Nat.le_refl _ | (simp; done) | (simp; omega) | omega))) | exact Below.refl _ _ | assumption))
  case ca6R75 => (first | (simp [Act.put]; done) | (simp [Act.put, *]; done))
  try dsimp only
  refine wpW_det (t' := ?ct7R75) 7 (by rfl) (by kernel_rfl) (NQ_free _) (by kernel_rfl) ?cw7R75 ?ch7R75 ?ca7R75 (Eq.refl _) ?cH7R75
  case cw7R75 => (go_simp; done)
  case ch7R75 =>
    intro ds w' hS K hK
    have hc := (bcell hS).1
    have hf := (bcell hS).2
    have hz := hS.size
    try simp at hz
    go_simp
    try go_bits
    first
      | exact hK _ hS (Gr.refl _)
      | exact hK _ (by repeat (first | (with_reducible exact Below.refl _ _) | (with_reducible assumption) | ((with_reducible refine Below.setCell ?_ ?_ _); rotate_left; · (first | exact Nat.le_refl _ | (simp; done) | (simp; omega) | omega)) | ((with_reducible refine Below.alloc ?_ ?_ _); rotate_left; · (first | exact Nat.le_refl _ | (simp; done) | (simp; omega) | omega)) | (with_reducible apply Below.drew) | (with_reducible apply below_drewN') | (refine Below.trans ?_ (Below.mono (by assumption) (by first | exact Nat.le_refl _ | (simp; done) | (simp; omega) | omega))) | exact Below.refl _ _ | assumption)) (by repeat (first | (with_reducible exact Below.refl _ _) | (with_reducible assumption) | ((with_reducible refine Below.setCell ?_ ?_ _); rotate_left; · (first | exact Nat.le_refl _ | (simp; done) | (simp; omega) | omega)) | ((with_reducible refine Below.alloc ?_ ?_ _); rotate_left; · (first | exact Nat.le_refl _ | (simp; done) | (simp; omega) | omega)) | (with_reducible apply Below.drew) | (with_reducible apply below_drewN') | (refine Below.trans ?_ (Below.mono (by assumption) (by first | exact Nat.le_refl _ | (simp; done) | (simp; omega) | omega))) | exact Below.refl _ _ | assumption))
  case ca7R75 => (first | (simp [Act.put]; done) | (simp [Act.put, *]; done))
  try dsimp only
  refine wpW_det (t' := ?ct8R75) 8 (by rfl) (by kernel_rfl) (NQ_free _) (by kernel_rfl) ?cw8R75 ?ch8R75 ?ca8R75 (Eq.refl _) ?cH8R75
  case cw8R75 => (go_simp; done)
  case ch8R75 =>
    intro ds w' hS K hK
    have hc := (bcell hS).1
    have hf := (bcell hS).2
    have hz := hS.size
    try simp at hz
    go_simp
    try go_bits
    first
      | exact hK _ hS (Gr.refl _)
      | exact hK _ (by repeat (first | (with_reducible exact Below.refl _ _) | (with_reducible assumption) | ((with_reducible refine Below.setCell ?_ ?_ _); rotate_left; · (first | exact Nat.le_refl _ | (simp; done) | (simp; omega) | omega)) | ((with_reducible refine Below.alloc ?_ ?_ _); rotate_left; · (first | exact Nat.le_refl _ | (simp; done) | (simp; omega) | omega)) | (with_reducible apply Below.drew) | (with_reducible apply below_drewN') | (refine Below.trans ?_ (Below.mono (by assumption) (by first | exact Nat.le_refl _ | (simp; done) | (simp; omega) | omega))) | exact Below.refl _ _ | assumption)) (by repeat (first | (with_reducible exact Below.refl _ _) | (with_reducible assumption) | ((with_reducible refine Below.setCell ?_ ?_ _); rotate_left; · (first | exact Nat.le_refl _ | (simp; done) | (simp; omega) | omega)) | ((with_reducible refine Below.alloc ?_ ?_ _); rotate_left; · (first | exact Nat.le_refl _ | (simp; done) | (simp; omega) | omega)) | (with_reducible apply Below.drew) | (with_reducible apply below_drewN') | (refine Below.trans ?_ (Below.mono (by assumption) (by first | exact Nat.le_refl _ | (simp; done) | (simp; omega) | omega))) | exact Below.refl _ _ | assumption))
  case ca8R75 => (first | (simp [Act.put]; done) | (simp [Act.put, *]; done))
  try dsimp only
  refine wpW_branch [1] (by kernel_rfl) (by simp) ?_
  intro v1 hg_v1 hS_v1
  refine each_cons ?_ each_nil
  refine wpOp_go (by rfl) (Eq.refl _) (by go_simp; done) ?_
  intro K hK
  go_simp
  try simp only [Act.put]
  refine (copyScans_any l A c B _ (HL.out _ hS_v1) hle (by have := Below.size hS_v1; omega) HNIL.out HD).mono ?_
  rintro e ws1 ⟨v2, L2, rfl, hc2, own2, each2, hBs⟩
  obtain ⟨A2, c2, rfl, hl2⟩ := copiedS hc2 own2 each2 (by omega) HSZ.out
  refine hK _ _ (Below.trans hS_v1 (hBs.mono (Below.size hS_v1))) ?_
  clear hK K own2 each2 hBs
  refine wpW_branch [9] (by kernel_rfl) (by simp) ?_
  intro v2 hg_v2 hS_v2
  refine each_cons ?_ each_nil
  refine wpOp_go (by rfl) (Eq.refl _) (by go_simp; done) ?_
  intro K hK
  go_simp
  try simp only [Act.put]
  refine (areasCopy l L2 A2 c2 _ (level + more) corners _ hc2 (hl2.below hg_v2 (Nat.le_refl _)) (Below.size hg_v2) HG.out hl6 HLV.out).mono ?_
  rintro e ws2 ⟨A', c', P, As, rfl, hA, hBs⟩
  refine hK _ _ (Below.trans hS_v2 (hBs.mono (Below.size hS_v2))) ?_
  clear hK K hBs hl2
  refine wpW_det (t' := ?ct10R76) 10 (by rfl) (by kernel_rfl) (NQ_free _) (by kernel_rfl) ?cw10R76 ?ch10R76 ?ca10R76 (Eq.refl _) ?cH10R76
  case cw10R76 => (go_simp; done)
  case ch10R76 =>
    intro ds w' hS K hK
    have hc := (bcell hS).1
    have hf := (bcell hS).2
    have hz := hS.size
    try simp at hz
    go_simp
    try go_bits
    first
      | exact hK _ hS (Gr.refl _)
      | exact hK _ (by repeat (first | (with_reducible exact Below.refl _ _) | (with_reducible assumption) | ((with_reducible refine Below.setCell ?_ ?_ _); rotate_left; · (first | exact Nat.le_refl _ | (simp; done) | (simp; omega) | omega)) | ((with_reducible refine Below.alloc ?_ ?_ _); rotate_left; · (first | exact Nat.le_refl _ | (simp; done) | (simp; omega) | omega)) | (with_reducible apply Below.drew) | (with_reducible apply below_drewN') | (refine Below.trans ?_ (Below.mono (by assumption) (by first | exact Nat.le_refl _ | (simp; done) | (simp; omega) | omega))) | exact Below.refl _ _ | assumption)) (by repeat (first | (with_reducible exact Below.refl _ _) | (with_reducible assumption) | ((with_reducible refine Below.setCell ?_ ?_ _); rotate_left; · (first | exact Nat.le_refl _ | (simp; done) | (simp; omega) | omega)) | ((with_reducible refine Below.alloc ?_ ?_ _); rotate_left; · (first | exact Nat.le_refl _ | (simp; done) | (simp; omega) | omega)) | (with_reducible apply Below.drew) | (with_reducible apply below_drewN') | (refine Below.trans ?_ (Below.mono (by assumption) (by first | exact Nat.le_refl _ | (simp; done) | (simp; omega) | omega))) | exact Below.refl _ _ | assumption))
  case ca10R76 => (first | (simp [Act.put]; done) | (simp [Act.put, *]; done))
  try dsimp only
  refine wpW_det (t' := ?ct11R76) 11 (by rfl) (by kernel_rfl) (NQ_free _) (by kernel_rfl) ?cw11R76 ?ch11R76 ?ca11R76 (Eq.refl _) ?cH11R76
  case cw11R76 => (go_simp; done)
  case ch11R76 =>
    intro ds w' hS K hK
    have hc := (bcell hS).1
    have hf := (bcell hS).2
    have hz := hS.size
    try simp at hz
    go_simp
    try go_bits
    first
      | exact hK _ hS (Gr.refl _)
      | exact hK _ (by repeat (first | (with_reducible exact Below.refl _ _) | (with_reducible assumption) | ((with_reducible refine Below.setCell ?_ ?_ _); rotate_left; · (first | exact Nat.le_refl _ | (simp; done) | (simp; omega) | omega)) | ((with_reducible refine Below.alloc ?_ ?_ _); rotate_left; · (first | exact Nat.le_refl _ | (simp; done) | (simp; omega) | omega)) | (with_reducible apply Below.drew) | (with_reducible apply below_drewN') | (refine Below.trans ?_ (Below.mono (by assumption) (by first | exact Nat.le_refl _ | (simp; done) | (simp; omega) | omega))) | exact Below.refl _ _ | assumption)) (by repeat (first | (with_reducible exact Below.refl _ _) | (with_reducible assumption) | ((with_reducible refine Below.setCell ?_ ?_ _); rotate_left; · (first | exact Nat.le_refl _ | (simp; done) | (simp; omega) | omega)) | ((with_reducible refine Below.alloc ?_ ?_ _); rotate_left; · (first | exact Nat.le_refl _ | (simp; done) | (simp; omega) | omega)) | (with_reducible apply Below.drew) | (with_reducible apply below_drewN') | (refine Below.trans ?_ (Below.mono (by assumption) (by first | exact Nat.le_refl _ | (simp; done) | (simp; omega) | omega))) | exact Below.refl _ _ | assumption))
  case ca11R76 => (first | (simp [Act.put]; done) | (simp [Act.put, *]; done))
  try dsimp only
  refine wpW_det (t' := ?ct12R76) 12 (by rfl) (by kernel_rfl) (NQ_free _) (by kernel_rfl) ?cw12R76 ?ch12R76 ?ca12R76 (Eq.refl _) ?cH12R76
  case cw12R76 => (go_simp; done)
  case ch12R76 =>
    intro ds w' hS K hK
    have hc := (bcell hS).1
    have hf := (bcell hS).2
    have hz := hS.size
    try simp at hz
    go_simp
    try go_bits
    first
      | exact hK _ hS (Gr.refl _)
      | exact hK _ (by repeat (first | (with_reducible exact Below.refl _ _) | (with_reducible assumption) | ((with_reducible refine Below.setCell ?_ ?_ _); rotate_left; · (first | exact Nat.le_refl _ | (simp; done) | (simp; omega) | omega)) | ((with_reducible refine Below.alloc ?_ ?_ _); rotate_left; · (first | exact Nat.le_refl _ | (simp; done) | (simp; omega) | omega)) | (with_reducible apply Below.drew) | (with_reducible apply below_drewN') | (refine Below.trans ?_ (Below.mono (by assumption) (by first | exact Nat.le_refl _ | (simp; done) | (simp; omega) | omega))) | exact Below.refl _ _ | assumption)) (by repeat (first | (with_reducible exact Below.refl _ _) | (with_reducible assumption) | ((with_reducible refine Below.setCell ?_ ?_ _); rotate_left; · (first | exact Nat.le_refl _ | (simp; done) | (simp; omega) | omega)) | ((with_reducible refine Below.alloc ?_ ?_ _); rotate_left; · (first | exact Nat.le_refl _ | (simp; done) | (simp; omega) | omega)) | (with_reducible apply Below.drew) | (with_reducible apply below_drewN') | (refine Below.trans ?_ (Below.mono (by assumption) (by first | exact Nat.le_refl _ | (simp; done) | (simp; omega) | omega))) | exact Below.refl _ _ | assumption))
  case ca12R76 => (first | (simp [Act.put]; done) | (simp [Act.put, *]; done))
  try dsimp only
  refine wpW_det (t' := ?ct13R76) 13 (by rfl) (by kernel_rfl) (NQ_free _) (by kernel_rfl) ?cw13R76 ?ch13R76 ?ca13R76 (Eq.refl _) ?cH13R76
  case cw13R76 => (go_simp; done)
  case ch13R76 =>
    intro ds w' hS K hK
    have hc := (bcell hS).1
    have hf := (bcell hS).2
    have hz := hS.size
    try simp at hz
    go_simp
    try go_bits
    first
      | exact hK _ hS (Gr.refl _)
      | exact hK _ (by repeat (first | (with_reducible exact Below.refl _ _) | (with_reducible assumption) | ((with_reducible refine Below.setCell ?_ ?_ _); rotate_left; · (first | exact Nat.le_refl _ | (simp; done) | (simp; omega) | omega)) | ((with_reducible refine Below.alloc ?_ ?_ _); rotate_left; · (first | exact Nat.le_refl _ | (simp; done) | (simp; omega) | omega)) | (with_reducible apply Below.drew) | (with_reducible apply below_drewN') | (refine Below.trans ?_ (Below.mono (by assumption) (by first | exact Nat.le_refl _ | (simp; done) | (simp; omega) | omega))) | exact Below.refl _ _ | assumption)) (by repeat (first | (with_reducible exact Below.refl _ _) | (with_reducible assumption) | ((with_reducible refine Below.setCell ?_ ?_ _); rotate_left; · (first | exact Nat.le_refl _ | (simp; done) | (simp; omega) | omega)) | ((with_reducible refine Below.alloc ?_ ?_ _); rotate_left; · (first | exact Nat.le_refl _ | (simp; done) | (simp; omega) | omega)) | (with_reducible apply Below.drew) | (with_reducible apply below_drewN') | (refine Below.trans ?_ (Below.mono (by assumption) (by first | exact Nat.le_refl _ | (simp; done) | (simp; omega) | omega))) | exact Below.refl _ _ | assumption))
  case ca13R76 => (first | (simp [Act.put]; done) | (simp [Act.put, *]; done))
  try dsimp only
  refine wpW_det (t' := ?ct14R76) 14 (by rfl) (by kernel_rfl) (NQ_free _) (by kernel_rfl) ?cw14R76 ?ch14R76 ?ca14R76 (Eq.refl _) ?cH14R76
  case cw14R76 => (go_simp; done)
  case ch14R76 =>
    intro ds w' hS K hK
    have hc := (bcell hS).1
    have hf := (bcell hS).2
    have hz := hS.size
    try simp at hz
    go_simp
    try go_bits
    first
      | exact hK _ hS (Gr.refl _)
      | exact hK _ (by repeat (first | (with_reducible exact Below.refl _ _) | (with_reducible assumption) | ((with_reducible refine Below.setCell ?_ ?_ _); rotate_left; · (first | exact Nat.le_refl _ | (simp; done) | (simp; omega) | omega)) | ((with_reducible refine Below.alloc ?_ ?_ _); rotate_left; · (first | exact Nat.le_refl _ | (simp; done) | (simp; omega) | omega)) | (with_reducible apply Below.drew) | (with_reducible apply below_drewN') | (refine Below.trans ?_ (Below.mono (by assumption) (by first | exact Nat.le_refl _ | (simp; done) | (simp; omega) | omega))) | exact Below.refl _ _ | assumption)) (by repeat (first | (with_reducible exact Below.refl _ _) | (with_reducible assumption) | ((with_reducible refine Below.setCell ?_ ?_ _); rotate_left; · (first | exact Nat.le_refl _ | (simp; done) | (simp; omega) | omega)) | ((with_reducible refine Below.alloc ?_ ?_ _); rotate_left; · (first | exact Nat.le_refl _ | (simp; done) | (simp; omega) | omega)) | (with_reducible apply Below.drew) | (with_reducible apply below_drewN') | (refine Below.trans ?_ (Below.mono (by assumption) (by first | exact Nat.le_refl _ | (simp; done) | (simp; omega) | omega))) | exact Below.refl _ _ | assumption))
  case ca14R76 => (first | (simp [Act.put]; done) | (simp [Act.put, *]; done))
  try dsimp only
  refine wpW_end (by kernel_rfl) ?_
  intro we hg hS
  unfold NQ
  dsimp only
  exact H.out _ _ _ _ _ _ _ _ _ _ _ _ _ A' c' _ P As we (hA.below hg (Nat.le_refl _)) (Below.size hg) hS

end Go.Proofs.YtidgeagpgllkeaaGreat

namespace Go.Proofs.YtidgeagpgllkeaaGreat
open Go.RowKit

set_option maxRecDepth 100000 in
set_option maxHeartbeats 4000000 in
/-- Whether an area lies in another one, where it lies in none before (region 20). -/
theorem levReg20 {g : Int → Int → Int} {As Bs : List ArA} {A1 A2 : Option Addr} {c1 c2 B1 B2 : Nat} {w : World} (ha : ArsOk g As A1 B1 w) (hb : ArsOk g Bs A2 B2 w) (hB1 : B1 ≤ w.heap.size) (hB2 : B2 ≤ w.heap.size) {i m : Nat} (hi : i < Bs.length) (hm : m < As.length) {t0 t1 t2 t3 t4 t5 t6 t7 t8 t10 t12 t13 t17 t18 t19 t20 t21 t22 t23 t24 t25 t26 t27 t28 t29 t30 t31 t32 t33 t34 t35 t36 t37 t38 t39 t40 t41 t42 t43 t44 t45 t46 t47 t48 t49 t50 t51 t52 t53 t54 t55 t56 t57 t58 t59 t60 t61 t62 t63 t64 t65 t66 t67 t68 t69 t70 t71 t72 t73 t74 t75 t76 t77 t78 t79 t80 t81 t82 t83 t84 t85 t86 t87 t88 t89 t90 t91 t92 t93 t94 t95 t96 t97 t98 t99 t100 t101 t102 t103 t104 t105 t106 t107 t108 t109 t110 t111 t112 t113 t114 t115 t116 t117 t118 t119 t120 t121 t122 t123 t124 t125 t126 t127 t128 t129 t130 t131 t132 t133 t134 t135 t136 t137 t138 t139 t140 t141 t142 t143 t144 t145 t146 t147 t148 t149 t150 t151 t152 t153 t154 t155 t156 t157 t158 t159 t160 t161 t162 t163 t164 t165 t166 t167 t168 : Value} {ds : List Deferred} (Q : Exit → Act → World → Prop)
    (h : ∀ (t86 t87 t88 t89 t90 t91 t92 t93 t94 t95 t96 t97 : Value) (w' : World), Below w.heap.size w w' → Q .normal ⟨#[t0, t1, t2, t3, t4, t5, t6, t7, t8, .slice A1 As.length c1, t10, .slice A2 Bs.length c2, t12, t13, .int .i64 (i : Int), .bool (subB Bs[i].2 As[m].2), .int .i64 (m : Int), t17, t18, t19, t20, t21, t22, t23, t24, t25, t26, t27, t28, t29, t30, t31, t32, t33, t34, t35, t36, t37, t38, t39, t40, t41, t42, t43, t44, t45, t46, t47, t48, t49, t50, t51, t52, t53, t54, t55, t56, t57, t58, t59, t60, t61, t62, t63, t64, t65, t66, t67, t68, t69, t70, t71, t72, t73, t74, t75, t76, t77, t78, t79, t80, t81, t82, t83, t84, t85, t86, t87, t88, t89, t90, t91, t92, t93, t94, t95, t96, t97, t98, t99, t100, t101, t102, t103, t104, t105, t106, t107, t108, t109, t110, t111, t112, t113, t114, t115, t116, t117, t118, t119, t120, t121, t122, t123, t124, t125, t126, t127, t128, t129, t130, t131, t132, t133, t134, t135, t136, t137, t138, t139, t140, t141, t142, t143, t144, t145, t146, t147, t148, t149, t150, t151, t152, t153, t154, t155, t156, t157, t158, t159, t160, t161, t162, t163, t164, t165, t166, t167, t168], ds⟩ w') :
    (regOf Tryz.f11 20).wp Tryz.prog Q ⟨#[t0, t1, t2, t3, t4, t5, t6, t7, t8, .slice A1 As.length c1, t10, .slice A2 Bs.length c2, t12, t13, .int .i64 (i : Int), .bool false, .int .i64 (m : Int), t17, t18, t19, t20, t21, t22, t23, t24, t25, t26, t27, t28, t29, t30, t31, t32, t33, t34, t35, t36, t37, t38, t39, t40, t41, t42, t43, t44, t45, t46, t47, t48, t49, t50, t51, t52, t53, t54, t55, t56, t57, t58, t59, t60, t61, t62, t63, t64, t65, t66, t67, t68, t69, t70, t71, t72, t73, t74, t75, t76, t77, t78, t79, t80, t81, t82, t83, t84, t85, t86, t87, t88, t89, t90, t91, t92, t93, t94, t95, t96, t97, t98, t99, t100, t101, t102, t103, t104, t105, t106, t107, t108, t109, t110, t111, t112, t113, t114, t115, t116, t117, t118, t119, t120, t121, t122, t123, t124, t125, t126, t127, t128, t129, t130, t131, t132, t133, t134, t135, t136, t137, t138, t139, t140, t141, t142, t143, t144, t145, t146, t147, t148, t149, t150, t151, t152, t153, t154, t155, t156, t157, t158, t159, t160, t161, t162, t163, t164, t165, t166, t167, t168], ds⟩ w := by
  have H := Lib.hid h; clear h
  obtain ⟨g1, o1, hA1, hg1, x0, x1, x2, x3⟩ := ha.cell hm
  obtain ⟨g2, o2, hA2, hg2, y0, y1, y2, y3⟩ := hb.cell hi
  have ea := ha.each _ (List.getElem_mem hm)
  have eb := hb.each _ (List.getElem_mem hi)
  have i1 : ((i : Int) < (Bs.length : Int)) := by omega
  have i2 : ((m : Int) < (As.length : Int)) := by omega
  obtain ⟨p1, hp1⟩ : ∃ p, (peakV g As[m].2).1 = p := ⟨_, rfl⟩
  obtain ⟨r1, hr1⟩ : ∃ p, (peakV g As[m].2).2 = p := ⟨_, rfl⟩
  obtain ⟨p2, hp2⟩ : ∃ p, (peakV g Bs[i].2).1 = p := ⟨_, rfl⟩
  obtain ⟨r2, hr2⟩ : ∃ p, (peakV g Bs[i].2).2 = p := ⟨_, rfl⟩
  rw [hp1, hr1] at x3
  rw [hp1] at x1
  rw [hr1] at x2
  rw [hp2, hr2] at y3
  rw [hp2] at y1
  rw [hr2] at y2
  obtain ⟨k1, hv1⟩ : ∃ v, g p1 r1 = v := ⟨_, rfl⟩
  obtain ⟨k2, hv2⟩ : ∃ v, g p2 r2 = v := ⟨_, rfl⟩
  rw [hv1] at x3
  rw [hv2] at y3
  clear hp1 hr1 hp2 hr2 hv1 hv2
  generalize As[m] = a at *
  generalize Bs[i] = b at *
  subst hA1; subst hA2
  obtain ⟨va, la⟩ := a
  obtain ⟨vb, lb⟩ := b
  obtain ⟨ln1, Aa, ca, e1, ra⟩ := ea
  obtain ⟨ln2, Ab, cb, e2, rb⟩ := eb
  dsimp only at e1 e2 ra rb ln1 ln2 x0 y0 H
  subst e1; subst e2
  have lx : g1 < w.heap.size := by omega
  have ly : g2 < w.heap.size := by omega
  conv in (regOf _ _) => whnf
  refine wp_region_w (Gr _) (by kernel_rfl) (Below.refl _ _).drew ?_
  refine wpW_det (t' := ?ct0R77) 0 (by rfl) (by kernel_rfl) (NQ_free _) (by kernel_rfl) ?cw0R77 ?ch0R77 ?ca0R77 (Eq.refl _) ?cH0R77
  case cw0R77 => (go_simp; done)
  case ch0R77 =>
    intro ds w' hS K hK
    have hc := (bcell hS).1
    have hf := (bcell hS).2
    have hz := hS.size
    try simp at hz
    go_simp
    try go_bits
    first
      | exact hK _ hS (Gr.refl _)
      | exact hK _ (by repeat (first | (with_reducible exact Below.refl _ _) | (with_reducible assumption) | ((with_reducible refine Below.setCell ?_ ?_ _); rotate_left; · (first | exact Nat.le_refl _ | (simp; done) | (simp; omega) | omega)) | ((with_reducible refine Below.alloc ?_ ?_ _); rotate_left; · (first | exact Nat.le_refl _ | (simp; done) | (simp; omega) | omega)) | (with_reducible apply Below.drew) | (with_reducible apply below_drewN') | (refine Below.trans ?_ (Below.mono (by assumption) (by first | exact Nat.le_refl _ | (simp; done) | (simp; omega) | omega))) | exact Below.refl _ _ | assumption)) (by repeat (first | (with_reducible exact Below.refl _ _) | (with_reducible assumption) | ((with_reducible refine Below.setCell ?_ ?_ _); rotate_left; · (first | exact Nat.le_refl _ | (simp; done) | (simp; omega) | omega)) | ((with_reducible refine Below.alloc ?_ ?_ _); rotate_left; · (first | exact Nat.le_refl _ | (simp; done) | (simp; omega) | omega)) | (with_reducible apply Below.drew) | (with_reducible apply below_drewN') | (refine Below.trans ?_ (Below.mono (by assumption) (by first | exact Nat.le_refl _ | (simp; done) | (simp; omega) | omega))) | exact Below.refl _ _ | assumption))
  case ca0R77 => (first | (simp [Act.put]; done) | (simp [Act.put, *]; done))
  try dsimp only
  refine wpW_det (t' := ?ct1R77) 1 (by rfl) (by kernel_rfl) (NQ_free _) (by kernel_rfl) ?cw1R77 ?ch1R77 ?ca1R77 (Eq.refl _) ?cH1R77
  case cw1R77 => (go_simp; done)
  case ch1R77 =>
    intro ds w' hS K hK
    have hc := (bcell hS).1
    have hf := (bcell hS).2
    have hz := hS.size
    try simp at hz
    go_simp
    try go_bits
    first
      | exact hK _ hS (Gr.refl _)
      | exact hK _ (by repeat (first | (with_reducible exact Below.refl _ _) | (with_reducible assumption) | ((with_reducible refine Below.setCell ?_ ?_ _); rotate_left; · (first | exact Nat.le_refl _ | (simp; done) | (simp; omega) | omega)) | ((with_reducible refine Below.alloc ?_ ?_ _); rotate_left; · (first | exact Nat.le_refl _ | (simp; done) | (simp; omega) | omega)) | (with_reducible apply Below.drew) | (with_reducible apply below_drewN') | (refine Below.trans ?_ (Below.mono (by assumption) (by first | exact Nat.le_refl _ | (simp; done) | (simp; omega) | omega))) | exact Below.refl _ _ | assumption)) (by repeat (first | (with_reducible exact Below.refl _ _) | (with_reducible assumption) | ((with_reducible refine Below.setCell ?_ ?_ _); rotate_left; · (first | exact Nat.le_refl _ | (simp; done) | (simp; omega) | omega)) | ((with_reducible refine Below.alloc ?_ ?_ _); rotate_left; · (first | exact Nat.le_refl _ | (simp; done) | (simp; omega) | omega)) | (with_reducible apply Below.drew) | (with_reducible apply below_drewN') | (refine Below.trans ?_ (Below.mono (by assumption) (by first | exact Nat.le_refl _ | (simp; done) | (simp; omega) | omega))) | exact Below.refl _ _ | assumption))
  case ca1R77 => (first | (simp [Act.put]; done) | (simp [Act.put, *]; done))
  try dsimp only
  refine wpW_det (t' := ?ct2R77) 2 (by rfl) (by kernel_rfl) (NQ_free _) (by kernel_rfl) ?cw2R77 ?ch2R77 ?ca2R77 (Eq.refl _) ?cH2R77
  case cw2R77 => (go_simp; done)
  case ch2R77 =>
    intro ds w' hS K hK
    have hc := (bcell hS).1
    have hf := (bcell hS).2
    have hz := hS.size
    try simp at hz
    go_simp
    try go_bits
    first
      | exact hK _ hS (Gr.refl _)
      | exact hK _ (by repeat (first | (with_reducible exact Below.refl _ _) | (with_reducible assumption) | ((with_reducible refine Below.setCell ?_ ?_ _); rotate_left; · (first | exact Nat.le_refl _ | (simp; done) | (simp; omega) | omega)) | ((with_reducible refine Below.alloc ?_ ?_ _); rotate_left; · (first | exact Nat.le_refl _ | (simp; done) | (simp; omega) | omega)) | (with_reducible apply Below.drew) | (with_reducible apply below_drewN') | (refine Below.trans ?_ (Below.mono (by assumption) (by first | exact Nat.le_refl _ | (simp; done) | (simp; omega) | omega))) | exact Below.refl _ _ | assumption)) (by repeat (first | (with_reducible exact Below.refl _ _) | (with_reducible assumption) | ((with_reducible refine Below.setCell ?_ ?_ _); rotate_left; · (first | exact Nat.le_refl _ | (simp; done) | (simp; omega) | omega)) | ((with_reducible refine Below.alloc ?_ ?_ _); rotate_left; · (first | exact Nat.le_refl _ | (simp; done) | (simp; omega) | omega)) | (with_reducible apply Below.drew) | (with_reducible apply below_drewN') | (refine Below.trans ?_ (Below.mono (by assumption) (by first | exact Nat.le_refl _ | (simp; done) | (simp; omega) | omega))) | exact Below.refl _ _ | assumption))
  case ca2R77 => (first | (simp [Act.put]; done) | (simp [Act.put, *]; done))
  try dsimp only
  refine wpW_det (t' := ?ct3R77) 3 (by rfl) (by kernel_rfl) (NQ_free _) (by kernel_rfl) ?cw3R77 ?ch3R77 ?ca3R77 (Eq.refl _) ?cH3R77
  case cw3R77 => (go_simp; done)
  case ch3R77 =>
    intro ds w' hS K hK
    have hc := (bcell hS).1
    have hf := (bcell hS).2
    have hz := hS.size
    try simp at hz
    go_simp
    try go_bits
    first
      | exact hK _ hS (Gr.refl _)
      | exact hK _ (by repeat (first | (with_reducible exact Below.refl _ _) | (with_reducible assumption) | ((with_reducible refine Below.setCell ?_ ?_ _); rotate_left; · (first | exact Nat.le_refl _ | (simp; done) | (simp; omega) | omega)) | ((with_reducible refine Below.alloc ?_ ?_ _); rotate_left; · (first | exact Nat.le_refl _ | (simp; done) | (simp; omega) | omega)) | (with_reducible apply Below.drew) | (with_reducible apply below_drewN') | (refine Below.trans ?_ (Below.mono (by assumption) (by first | exact Nat.le_refl _ | (simp; done) | (simp; omega) | omega))) | exact Below.refl _ _ | assumption)) (by repeat (first | (with_reducible exact Below.refl _ _) | (with_reducible assumption) | ((with_reducible refine Below.setCell ?_ ?_ _); rotate_left; · (first | exact Nat.le_refl _ | (simp; done) | (simp; omega) | omega)) | ((with_reducible refine Below.alloc ?_ ?_ _); rotate_left; · (first | exact Nat.le_refl _ | (simp; done) | (simp; omega) | omega)) | (with_reducible apply Below.drew) | (with_reducible apply below_drewN') | (refine Below.trans ?_ (Below.mono (by assumption) (by first | exact Nat.le_refl _ | (simp; done) | (simp; omega) | omega))) | exact Below.refl _ _ | assumption))
  case ca3R77 => (first | (simp [Act.put]; done) | (simp [Act.put, *]; done))
  try dsimp only
  refine wpW_det (t' := ?ct4R77) 4 (by rfl) (by kernel_rfl) (NQ_free _) (by kernel_rfl) ?cw4R77 ?ch4R77 ?ca4R77 (Eq.refl _) ?cH4R77
  case cw4R77 => (go_simp; done)
  case ch4R77 =>
    intro ds w' hS K hK
    have hc := (bcell hS).1
    have hf := (bcell hS).2
    have hz := hS.size
    try simp at hz
    go_simp
    try go_bits
    first
      | exact hK _ hS (Gr.refl _)
      | exact hK _ (by repeat (first | (with_reducible exact Below.refl _ _) | (with_reducible assumption) | ((with_reducible refine Below.setCell ?_ ?_ _); rotate_left; · (first | exact Nat.le_refl _ | (simp; done) | (simp; omega) | omega)) | ((with_reducible refine Below.alloc ?_ ?_ _); rotate_left; · (first | exact Nat.le_refl _ | (simp; done) | (simp; omega) | omega)) | (with_reducible apply Below.drew) | (with_reducible apply below_drewN') | (refine Below.trans ?_ (Below.mono (by assumption) (by first | exact Nat.le_refl _ | (simp; done) | (simp; omega) | omega))) | exact Below.refl _ _ | assumption)) (by repeat (first | (with_reducible exact Below.refl _ _) | (with_reducible assumption) | ((with_reducible refine Below.setCell ?_ ?_ _); rotate_left; · (first | exact Nat.le_refl _ | (simp; done) | (simp; omega) | omega)) | ((with_reducible refine Below.alloc ?_ ?_ _); rotate_left; · (first | exact Nat.le_refl _ | (simp; done) | (simp; omega) | omega)) | (with_reducible apply Below.drew) | (with_reducible apply below_drewN') | (refine Below.trans ?_ (Below.mono (by assumption) (by first | exact Nat.le_refl _ | (simp; done) | (simp; omega) | omega))) | exact Below.refl _ _ | assumption))
  case ca4R77 => (first | (simp [Act.put]; done) | (simp [Act.put, *]; done))
  try dsimp only
  refine wpW_det (t' := ?ct5R77) 5 (by rfl) (by kernel_rfl) (NQ_free _) (by kernel_rfl) ?cw5R77 ?ch5R77 ?ca5R77 (Eq.refl _) ?cH5R77
  case cw5R77 => (go_simp; done)
  case ch5R77 =>
    intro ds w' hS K hK
    have hc := (bcell hS).1
    have hf := (bcell hS).2
    have hz := hS.size
    try simp at hz
    go_simp
    try go_bits
    first
      | exact hK _ hS (Gr.refl _)
      | exact hK _ (by repeat (first | (with_reducible exact Below.refl _ _) | (with_reducible assumption) | ((with_reducible refine Below.setCell ?_ ?_ _); rotate_left; · (first | exact Nat.le_refl _ | (simp; done) | (simp; omega) | omega)) | ((with_reducible refine Below.alloc ?_ ?_ _); rotate_left; · (first | exact Nat.le_refl _ | (simp; done) | (simp; omega) | omega)) | (with_reducible apply Below.drew) | (with_reducible apply below_drewN') | (refine Below.trans ?_ (Below.mono (by assumption) (by first | exact Nat.le_refl _ | (simp; done) | (simp; omega) | omega))) | exact Below.refl _ _ | assumption)) (by repeat (first | (with_reducible exact Below.refl _ _) | (with_reducible assumption) | ((with_reducible refine Below.setCell ?_ ?_ _); rotate_left; · (first | exact Nat.le_refl _ | (simp; done) | (simp; omega) | omega)) | ((with_reducible refine Below.alloc ?_ ?_ _); rotate_left; · (first | exact Nat.le_refl _ | (simp; done) | (simp; omega) | omega)) | (with_reducible apply Below.drew) | (with_reducible apply below_drewN') | (refine Below.trans ?_ (Below.mono (by assumption) (by first | exact Nat.le_refl _ | (simp; done) | (simp; omega) | omega))) | exact Below.refl _ _ | assumption))
  case ca5R77 => (first | (simp [Act.put]; done) | (simp [Act.put, *]; done))
  try dsimp only
  refine wpW_det (t' := ?ct6R77) 6 (by rfl) (by kernel_rfl) (NQ_free _) (by kernel_rfl) ?cw6R77 ?ch6R77 ?ca6R77 (Eq.refl _) ?cH6R77
  case cw6R77 => (go_simp; done)
  case ch6R77 =>
    intro ds w' hS K hK
    have hc := (bcell hS).1
    have hf := (bcell hS).2
    have hz := hS.size
    try simp at hz
    go_simp
    try go_bits
    first
      | exact hK _ hS (Gr.refl _)
      | exact hK _ (by repeat (first | (with_reducible exact Below.refl _ _) | (with_reducible assumption) | ((with_reducible refine Below.setCell ?_ ?_ _); rotate_left; · (first | exact Nat.le_refl _ | (simp; done) | (simp; omega) | omega)) | ((with_reducible refine Below.alloc ?_ ?_ _); rotate_left; · (first | exact Nat.le_refl _ | (simp; done) | (simp; omega) | omega)) | (with_reducible apply Below.drew) | (with_reducible apply below_drewN') | (refine Below.trans ?_ (Below.mono (by assumption) (by first | exact Nat.le_refl _ | (simp; done) | (simp; omega) | omega))) | exact Below.refl _ _ | assumption)) (by repeat (first | (with_reducible exact Below.refl _ _) | (with_reducible assumption) | ((with_reducible refine Below.setCell ?_ ?_ _); rotate_left; · (first | exact Nat.le_refl _ | (simp; done) | (simp; omega) | omega)) | ((with_reducible refine Below.alloc ?_ ?_ _); rotate_left; · (first | exact Nat.le_refl _ | (simp; done) | (simp; omega) | omega)) | (with_reducible apply Below.drew) | (with_reducible apply below_drewN') | (refine Below.trans ?_ (Below.mono (by assumption) (by first | exact Nat.le_refl _ | (simp; done) | (simp; omega) | omega))) | exact Below.refl _ _ | assumption))
  case ca6R77 => (first | (simp [Act.put]; done) | (simp [Act.put, *]; done))
  try dsimp only
  refine wpW_det (t' := ?ct7R77) 7 (by rfl) (by kernel_rfl) (NQ_free _) (by kernel_rfl) ?cw7R77 ?ch7R77 ?ca7R77 (Eq.refl _) ?cH7R77
  case cw7R77 => (go_simp; done)
  case ch7R77 =>
    intro ds w' hS K hK
    have hc := (bcell hS).1
    have hf := (bcell hS).2
    have hz := hS.size
    try simp at hz
    go_simp
    try go_bits
    first
      | exact hK _ hS (Gr.refl _)
      | exact hK _ (by repeat (first | (with_reducible exact Below.refl _ _) | (with_reducible assumption) | ((with_reducible refine Below.setCell ?_ ?_ _); rotate_left; · (first | exact Nat.le_refl _ | (simp; done) | (simp; omega) | omega)) | ((with_reducible refine Below.alloc ?_ ?_ _); rotate_left; · (first | exact Nat.le_refl _ | (simp; done) | (simp; omega) | omega)) | (with_reducible apply Below.drew) | (with_reducible apply below_drewN') | (refine Below.trans ?_ (Below.mono (by assumption) (by first | exact Nat.le_refl _ | (simp; done) | (simp; omega) | omega))) | exact Below.refl _ _ | assumption)) (by repeat (first | (with_reducible exact Below.refl _ _) | (with_reducible assumption) | ((with_reducible refine Below.setCell ?_ ?_ _); rotate_left; · (first | exact Nat.le_refl _ | (simp; done) | (simp; omega) | omega)) | ((with_reducible refine Below.alloc ?_ ?_ _); rotate_left; · (first | exact Nat.le_refl _ | (simp; done) | (simp; omega) | omega)) | (with_reducible apply Below.drew) | (with_reducible apply below_drewN') | (refine Below.trans ?_ (Below.mono (by assumption) (by first | exact Nat.le_refl _ | (simp; done) | (simp; omega) | omega))) | exact Below.refl _ _ | assumption))
  case ca7R77 => (first | (simp [Act.put]; done) | (simp [Act.put, *]; done))
  try dsimp only
  refine wpW_det (t' := ?ct8R77) 8 (by rfl) (by kernel_rfl) (NQ_free _) (by kernel_rfl) ?cw8R77 ?ch8R77 ?ca8R77 (Eq.refl _) ?cH8R77
  case cw8R77 => (go_simp; done)
  case ch8R77 =>
    intro ds w' hS K hK
    have hc := (bcell hS).1
    have hf := (bcell hS).2
    have hz := hS.size
    try simp at hz
    go_simp
    try go_bits
    first
      | exact hK _ hS (Gr.refl _)
      | exact hK _ (by repeat (first | (with_reducible exact Below.refl _ _) | (with_reducible assumption) | ((with_reducible refine Below.setCell ?_ ?_ _); rotate_left; · (first | exact Nat.le_refl _ | (simp; done) | (simp; omega) | omega)) | ((with_reducible refine Below.alloc ?_ ?_ _); rotate_left; · (first | exact Nat.le_refl _ | (simp; done) | (simp; omega) | omega)) | (with_reducible apply Below.drew) | (with_reducible apply below_drewN') | (refine Below.trans ?_ (Below.mono (by assumption) (by first | exact Nat.le_refl _ | (simp; done) | (simp; omega) | omega))) | exact Below.refl _ _ | assumption)) (by repeat (first | (with_reducible exact Below.refl _ _) | (with_reducible assumption) | ((with_reducible refine Below.setCell ?_ ?_ _); rotate_left; · (first | exact Nat.le_refl _ | (simp; done) | (simp; omega) | omega)) | ((with_reducible refine Below.alloc ?_ ?_ _); rotate_left; · (first | exact Nat.le_refl _ | (simp; done) | (simp; omega) | omega)) | (with_reducible apply Below.drew) | (with_reducible apply below_drewN') | (refine Below.trans ?_ (Below.mono (by assumption) (by first | exact Nat.le_refl _ | (simp; done) | (simp; omega) | omega))) | exact Below.refl _ _ | assumption))
  case ca8R77 => (first | (simp [Act.put]; done) | (simp [Act.put, *]; done))
  try dsimp only
  refine wpW_det (t' := ?ct9R77) 9 (by rfl) (by kernel_rfl) (NQ_free _) (by kernel_rfl) ?cw9R77 ?ch9R77 ?ca9R77 (Eq.refl _) ?cH9R77
  case cw9R77 => (go_simp; done)
  case ch9R77 =>
    intro ds w' hS K hK
    have hc := (bcell hS).1
    have hf := (bcell hS).2
    have hz := hS.size
    try simp at hz
    go_simp
    try go_bits
    first
      | exact hK _ hS (Gr.refl _)
      | exact hK _ (by repeat (first | (with_reducible exact Below.refl _ _) | (with_reducible assumption) | ((with_reducible refine Below.setCell ?_ ?_ _); rotate_left; · (first | exact Nat.le_refl _ | (simp; done) | (simp; omega) | omega)) | ((with_reducible refine Below.alloc ?_ ?_ _); rotate_left; · (first | exact Nat.le_refl _ | (simp; done) | (simp; omega) | omega)) | (with_reducible apply Below.drew) | (with_reducible apply below_drewN') | (refine Below.trans ?_ (Below.mono (by assumption) (by first | exact Nat.le_refl _ | (simp; done) | (simp; omega) | omega))) | exact Below.refl _ _ | assumption)) (by repeat (first | (with_reducible exact Below.refl _ _) | (with_reducible assumption) | ((with_reducible refine Below.setCell ?_ ?_ _); rotate_left; · (first | exact Nat.le_refl _ | (simp; done) | (simp; omega) | omega)) | ((with_reducible refine Below.alloc ?_ ?_ _); rotate_left; · (first | exact Nat.le_refl _ | (simp; done) | (simp; omega) | omega)) | (with_reducible apply Below.drew) | (with_reducible apply below_drewN') | (refine Below.trans ?_ (Below.mono (by assumption) (by first | exact Nat.le_refl _ | (simp; done) | (simp; omega) | omega))) | exact Below.refl _ _ | assumption))
  case ca9R77 => (first | (simp [Act.put]; done) | (simp [Act.put, *]; done))
  try dsimp only
  refine wpW_branch [10] (by kernel_rfl) (by simp) ?_
  intro v1 hg_v1 hS_v1
  refine each_cons ?_ each_nil
  refine wpOp_go (by rfl) (Eq.refl _) (by go_simp; done) ?_
  intro K hK
  go_simp
  try simp only [Act.put]
  have hz := Below.size hS_v1
  refine (within8_any lb la Ab Aa cb ca w.heap.size p2 r2 k2 p1 r1 k1 _ ((rb.below (hS_v1.mono hB2) (Nat.le_refl _)).more hB2) ((ra.below (hS_v1.mono hB1) (Nat.le_refl _)).more hB1) ln2 ln1 hz).mono ?_
  rintro e ws ⟨rfl, hBs⟩
  refine hK _ _ (Below.trans hS_v1 (hBs.mono (Below.size hS_v1))) ?_
  clear hK K hBs hg_v1
  refine wpW_det (t' := ?ct11R78) 11 (by rfl) (by kernel_rfl) (NQ_free _) (by kernel_rfl) ?cw11R78 ?ch11R78 ?ca11R78 (Eq.refl _) ?cH11R78
  case cw11R78 => (go_simp; done)
  case ch11R78 =>
    intro ds w' hS K hK
    have hc := (bcell hS).1
    have hf := (bcell hS).2
    have hz := hS.size
    try simp at hz
    go_simp
    try go_bits
    first
      | exact hK _ hS (Gr.refl _)
      | exact hK _ (by repeat (first | (with_reducible exact Below.refl _ _) | (with_reducible assumption) | ((with_reducible refine Below.setCell ?_ ?_ _); rotate_left; · (first | exact Nat.le_refl _ | (simp; done) | (simp; omega) | omega)) | ((with_reducible refine Below.alloc ?_ ?_ _); rotate_left; · (first | exact Nat.le_refl _ | (simp; done) | (simp; omega) | omega)) | (with_reducible apply Below.drew) | (with_reducible apply below_drewN') | (refine Below.trans ?_ (Below.mono (by assumption) (by first | exact Nat.le_refl _ | (simp; done) | (simp; omega) | omega))) | exact Below.refl _ _ | assumption)) (by repeat (first | (with_reducible exact Below.refl _ _) | (with_reducible assumption) | ((with_reducible refine Below.setCell ?_ ?_ _); rotate_left; · (first | exact Nat.le_refl _ | (simp; done) | (simp; omega) | omega)) | ((with_reducible refine Below.alloc ?_ ?_ _); rotate_left; · (first | exact Nat.le_refl _ | (simp; done) | (simp; omega) | omega)) | (with_reducible apply Below.drew) | (with_reducible apply below_drewN') | (refine Below.trans ?_ (Below.mono (by assumption) (by first | exact Nat.le_refl _ | (simp; done) | (simp; omega) | omega))) | exact Below.refl _ _ | assumption))
  case ca11R78 => (first | (simp [Act.put]; done) | (simp [Act.put, *]; done))
  try dsimp only
  refine wpW_det (t' := ?ct12R78) 12 (by rfl) (by kernel_rfl) (NQ_free _) (by kernel_rfl) ?cw12R78 ?ch12R78 ?ca12R78 (Eq.refl _) ?cH12R78
  case cw12R78 => (go_simp; done)
  case ch12R78 =>
    intro ds w' hS K hK
    have hc := (bcell hS).1
    have hf := (bcell hS).2
    have hz := hS.size
    try simp at hz
    go_simp
    try go_bits
    first
      | exact hK _ hS (Gr.refl _)
      | exact hK _ (by repeat (first | (with_reducible exact Below.refl _ _) | (with_reducible assumption) | ((with_reducible refine Below.setCell ?_ ?_ _); rotate_left; · (first | exact Nat.le_refl _ | (simp; done) | (simp; omega) | omega)) | ((with_reducible refine Below.alloc ?_ ?_ _); rotate_left; · (first | exact Nat.le_refl _ | (simp; done) | (simp; omega) | omega)) | (with_reducible apply Below.drew) | (with_reducible apply below_drewN') | (refine Below.trans ?_ (Below.mono (by assumption) (by first | exact Nat.le_refl _ | (simp; done) | (simp; omega) | omega))) | exact Below.refl _ _ | assumption)) (by repeat (first | (with_reducible exact Below.refl _ _) | (with_reducible assumption) | ((with_reducible refine Below.setCell ?_ ?_ _); rotate_left; · (first | exact Nat.le_refl _ | (simp; done) | (simp; omega) | omega)) | ((with_reducible refine Below.alloc ?_ ?_ _); rotate_left; · (first | exact Nat.le_refl _ | (simp; done) | (simp; omega) | omega)) | (with_reducible apply Below.drew) | (with_reducible apply below_drewN') | (refine Below.trans ?_ (Below.mono (by assumption) (by first | exact Nat.le_refl _ | (simp; done) | (simp; omega) | omega))) | exact Below.refl _ _ | assumption))
  case ca12R78 => (first | (simp [Act.put]; done) | (simp [Act.put, *]; done))
  try dsimp only
  refine wpW_end (by kernel_rfl) ?_
  intro we hg hS
  unfold NQ
  dsimp only
  exact H.out _ _ _ _ _ _ _ _ _ _ _ _ we hS

set_option maxRecDepth 100000 in
set_option maxHeartbeats 4000000 in
/-- The amplitude of a cell of an area (region 27). -/
theorem levReg27 (l : List Sc) (A : Option Addr) (c B : Nat) {w : World} (HL : Hid (∀ w', Below w.heap.size w w' → ScOk l A B w')) (hB : B ≤ w.heap.size) (hle : l.length ≤ c) (hl6 : l.length ≤ 6) (HNIL : Hid (A = none → c = 0)) (HD : Hid (∀ s ∈ l, s.data.length ≤ s.dcap ∧ (s.dA = none → s.dcap = 0))) (HSZ : Hid (∀ s ∈ l, s.data.length ≤ 1000000000))
    {n c2 g2 o2 i k : Nat} {ca : Nat} {Ab : Option Addr} {lb : List (Int × Int)} {C : Nat} (hi : i < n) (hg2 : g2 < w.heap.size) (x0 : w.cell? ⟨g2, o2 + i * 4, none⟩ = some (.slice Ab lb.length ca)) (rb : Row w C 2 Ab lb.length (cellsC lb)) (hC : C ≤ w.heap.size) (hk : k < lb.length) (v : Int) (HW : Hid (W64 lb[k].1 ∧ W64 lb[k].2)) (HAT : Hid (∀ L : List Sc, L.map Sc.core = l.map Sc.core → (atE L lb[k].1 lb[k].2).1 = v ∧ (atE L lb[k].1 lb[k].2).2 = 0)) {t1 t2 t3 t4 t5 t6 t7 t8 t9 t10 t12 t13 t15 t16 t18 t19 t20 t21 t22 t23 t24 t25 t26 t27 t28 t29 t30 t31 t32 t33 t34 t35 t36 t37 t38 t39 t40 t41 t42 t43 t44 t45 t46 t47 t48 t49 t50 t51 t52 t53 t54 t55 t56 t57 t58 t59 t60 t61 t62 t63 t64 t65 t66 t67 t68 t69 t70 t71 t72 t73 t74 t75 t76 t77 t78 t79 t80 t81 t82 t83 t84 t85 t86 t87 t88 t89 t90 t91 t92 t93 t94 t95 t96 t97 t98 t99 t100 t101 t102 t103 t104 t105 t106 t107 t108 t109 t110 t111 t112 t113 t114 t115 t116 t117 t118 t119 t120 t121 t122 t123 t124 t125 t126 t127 t128 t129 t130 t131 t132 t133 t134 t135 t136 t137 t138 t139 t140 t141 t142 t143 t144 t145 t146 t147 t148 t149 t150 t151 t152 t153 t154 t155 t156 t157 t158 t159 t160 t161 t162 t163 t164 t165 t166 t167 t168 : Value} {ds : List Deferred} (Q : Exit → Act → World → Prop)
    (h : ∀ (t127 t128 t129 t130 t131 t132 t133 t134 t135 t136 t137 t138 t139 t140 : Value) (w' : World), Below w.heap.size w w' → Q .normal ⟨#[.slice A l.length c, t1, t2, t3, t4, t5, t6, t7, t8, t9, t10, .slice (some ⟨g2, o2, none⟩) n c2, t12, t13, .int .i64 (i : Int), t15, t16, .int .i64 (k : Int), .int .i64 v, .int .i64 0, t20, t21, t22, t23, t24, t25, t26, t27, t28, t29, t30, t31, t32, t33, t34, t35, t36, t37, t38, t39, t40, t41, t42, t43, t44, t45, t46, t47, t48, t49, t50, t51, t52, t53, t54, t55, t56, t57, t58, t59, t60, t61, t62, t63, t64, t65, t66, t67, t68, t69, t70, t71, t72, t73, t74, t75, t76, t77, t78, t79, t80, t81, t82, t83, t84, t85, t86, t87, t88, t89, t90, t91, t92, t93, t94, t95, t96, t97, t98, t99, t100, t101, t102, t103, t104, t105, t106, t107, t108, t109, t110, t111, t112, t113, t114, t115, t116, t117, t118, t119, t120, t121, t122, t123, t124, t125, t126, t127, t128, t129, t130, t131, t132, t133, t134, t135, t136, t137, t138, t139, t140, t141, t142, t143, t144, t145, t146, t147, t148, t149, t150, t151, t152, t153, t154, t155, t156, t157, t158, t159, t160, t161, t162, t163, t164, t165, t166, t167, t168], ds⟩ w') :
    (regOf Tryz.f11 27).wp Tryz.prog Q ⟨#[.slice A l.length c, t1, t2, t3, t4, t5, t6, t7, t8, t9, t10, .slice (some ⟨g2, o2, none⟩) n c2, t12, t13, .int .i64 (i : Int), t15, t16, .int .i64 (k : Int), t18, t19, t20, t21, t22, t23, t24, t25, t26, t27, t28, t29, t30, t31, t32, t33, t34, t35, t36, t37, t38, t39, t40, t41, t42, t43, t44, t45, t46, t47, t48, t49, t50, t51, t52, t53, t54, t55, t56, t57, t58, t59, t60, t61, t62, t63, t64, t65, t66, t67, t68, t69, t70, t71, t72, t73, t74, t75, t76, t77, t78, t79, t80, t81, t82, t83, t84, t85, t86, t87, t88, t89, t90, t91, t92, t93, t94, t95, t96, t97, t98, t99, t100, t101, t102, t103, t104, t105, t106, t107, t108, t109, t110, t111, t112, t113, t114, t115, t116, t117, t118, t119, t120, t121, t122, t123, t124, t125, t126, t127, t128, t129, t130, t131, t132, t133, t134, t135, t136, t137, t138, t139, t140, t141, t142, t143, t144, t145, t146, t147, t148, t149, t150, t151, t152, t153, t154, t155, t156, t157, t158, t159, t160, t161, t162, t163, t164, t165, t166, t167, t168], ds⟩ w := by
  have H := Lib.hid h; clear h
  obtain ⟨g3, o3, hA3, hg3, y0, y1⟩ := cellPair rb hk
  generalize lb[k] = x at *
  obtain ⟨xr, xc⟩ := x
  dsimp only at *
  subst hA3
  have i1 : ((i : Int) < (n : Int)) := by omega
  have i2 : ((k : Int) < (lb.length : Int)) := by omega
  have ly : g3 < w.heap.size := by omega
  conv in (regOf _ _) => whnf
  refine wp_region_w (Gr _) (by kernel_rfl) (Below.refl _ _).drew ?_
  refine wpW_det (t' := ?ct0R79) 0 (by rfl) (by kernel_rfl) (NQ_free _) (by kernel_rfl) ?cw0R79 ?ch0R79 ?ca0R79 (Eq.refl _) ?cH0R79
  case cw0R79 => (go_simp; done)
  case ch0R79 =>
    intro ds w' hS K hK
    have hc := (bcell hS).1
    have hf := (bcell hS).2
    have hz := hS.size
    try simp at hz
    go_simp
    try go_bits
    first
      | exact hK _ hS (Gr.refl _)
      | exact hK _ (by repeat (first | (with_reducible exact Below.refl _ _) | (with_reducible assumption) | ((with_reducible refine Below.setCell ?_ ?_ _); rotate_left; · (first | exact Nat.le_refl _ | (simp; done) | (simp; omega) | omega)) | ((with_reducible refine Below.alloc ?_ ?_ _); rotate_left; · (first | exact Nat.le_refl _ | (simp; done) | (simp; omega) | omega)) | (with_reducible apply Below.drew) | (with_reducible apply below_drewN') | (refine Below.trans ?_ (Below.mono (by assumption) (by first | exact Nat.le_refl _ | (simp; done) | (simp; omega) | omega))) | exact Below.refl _ _ | assumption)) (by repeat (first | (with_reducible exact Below.refl _ _) | (with_reducible assumption) | ((with_reducible refine Below.setCell ?_ ?_ _); rotate_left; · (first | exact Nat.le_refl _ | (simp; done) | (simp; omega) | omega)) | ((with_reducible refine Below.alloc ?_ ?_ _); rotate_left; · (first | exact Nat.le_refl _ | (simp; done) | (simp; omega) | omega)) | (with_reducible apply Below.drew) | (with_reducible apply below_drewN') | (refine Below.trans ?_ (Below.mono (by assumption) (by first | exact Nat.le_refl _ | (simp; done) | (simp; omega) | omega))) | exact Below.refl _ _ | assumption))
  case ca0R79 => (first | (simp [Act.put]; done) | (simp [Act.put, *]; done))
  try dsimp only
  refine wpW_det (t' := ?ct2R79) 2 (by rfl) (by kernel_rfl) (NQ_free _) (by kernel_rfl) ?cw2R79 ?ch2R79 ?ca2R79 (Eq.refl _) ?cH2R79
  case cw2R79 => (go_simp; done)
  case ch2R79 =>
    intro ds w' hS K hK
    have hc := (bcell hS).1
    have hf := (bcell hS).2
    have hz := hS.size
    try simp at hz
    go_simp
    try go_bits
    first
      | exact hK _ hS (Gr.refl _)
      | exact hK _ (by repeat (first | (with_reducible exact Below.refl _ _) | (with_reducible assumption) | ((with_reducible refine Below.setCell ?_ ?_ _); rotate_left; · (first | exact Nat.le_refl _ | (simp; done) | (simp; omega) | omega)) | ((with_reducible refine Below.alloc ?_ ?_ _); rotate_left; · (first | exact Nat.le_refl _ | (simp; done) | (simp; omega) | omega)) | (with_reducible apply Below.drew) | (with_reducible apply below_drewN') | (refine Below.trans ?_ (Below.mono (by assumption) (by first | exact Nat.le_refl _ | (simp; done) | (simp; omega) | omega))) | exact Below.refl _ _ | assumption)) (by repeat (first | (with_reducible exact Below.refl _ _) | (with_reducible assumption) | ((with_reducible refine Below.setCell ?_ ?_ _); rotate_left; · (first | exact Nat.le_refl _ | (simp; done) | (simp; omega) | omega)) | ((with_reducible refine Below.alloc ?_ ?_ _); rotate_left; · (first | exact Nat.le_refl _ | (simp; done) | (simp; omega) | omega)) | (with_reducible apply Below.drew) | (with_reducible apply below_drewN') | (refine Below.trans ?_ (Below.mono (by assumption) (by first | exact Nat.le_refl _ | (simp; done) | (simp; omega) | omega))) | exact Below.refl _ _ | assumption))
  case ca2R79 => (first | (simp [Act.put]; done) | (simp [Act.put, *]; done))
  try dsimp only
  refine wpW_det (t' := ?ct3R79) 3 (by rfl) (by kernel_rfl) (NQ_free _) (by kernel_rfl) ?cw3R79 ?ch3R79 ?ca3R79 (Eq.refl _) ?cH3R79
  case cw3R79 => (go_simp; done)
  case ch3R79 =>
    intro ds w' hS K hK
    have hc := (bcell hS).1
    have hf := (bcell hS).2
    have hz := hS.size
    try simp at hz
    go_simp
    try go_bits
    first
      | exact hK _ hS (Gr.refl _)
      | exact hK _ (by repeat (first | (with_reducible exact Below.refl _ _) | (with_reducible assumption) | ((with_reducible refine Below.setCell ?_ ?_ _); rotate_left; · (first | exact Nat.le_refl _ | (simp; done) | (simp; omega) | omega)) | ((with_reducible refine Below.alloc ?_ ?_ _); rotate_left; · (first | exact Nat.le_refl _ | (simp; done) | (simp; omega) | omega)) | (with_reducible apply Below.drew) | (with_reducible apply below_drewN') | (refine Below.trans ?_ (Below.mono (by assumption) (by first | exact Nat.le_refl _ | (simp; done) | (simp; omega) | omega))) | exact Below.refl _ _ | assumption)) (by repeat (first | (with_reducible exact Below.refl _ _) | (with_reducible assumption) | ((with_reducible refine Below.setCell ?_ ?_ _); rotate_left; · (first | exact Nat.le_refl _ | (simp; done) | (simp; omega) | omega)) | ((with_reducible refine Below.alloc ?_ ?_ _); rotate_left; · (first | exact Nat.le_refl _ | (simp; done) | (simp; omega) | omega)) | (with_reducible apply Below.drew) | (with_reducible apply below_drewN') | (refine Below.trans ?_ (Below.mono (by assumption) (by first | exact Nat.le_refl _ | (simp; done) | (simp; omega) | omega))) | exact Below.refl _ _ | assumption))
  case ca3R79 => (first | (simp [Act.put]; done) | (simp [Act.put, *]; done))
  try dsimp only
  refine wpW_det (t' := ?ct4R79) 4 (by rfl) (by kernel_rfl) (NQ_free _) (by kernel_rfl) ?cw4R79 ?ch4R79 ?ca4R79 (Eq.refl _) ?cH4R79
  case cw4R79 => (go_simp; done)
  case ch4R79 =>
    intro ds w' hS K hK
    have hc := (bcell hS).1
    have hf := (bcell hS).2
    have hz := hS.size
    try simp at hz
    go_simp
    try go_bits
    first
      | exact hK _ hS (Gr.refl _)
      | exact hK _ (by repeat (first | (with_reducible exact Below.refl _ _) | (with_reducible assumption) | ((with_reducible refine Below.setCell ?_ ?_ _); rotate_left; · (first | exact Nat.le_refl _ | (simp; done) | (simp; omega) | omega)) | ((with_reducible refine Below.alloc ?_ ?_ _); rotate_left; · (first | exact Nat.le_refl _ | (simp; done) | (simp; omega) | omega)) | (with_reducible apply Below.drew) | (with_reducible apply below_drewN') | (refine Below.trans ?_ (Below.mono (by assumption) (by first | exact Nat.le_refl _ | (simp; done) | (simp; omega) | omega))) | exact Below.refl _ _ | assumption)) (by repeat (first | (with_reducible exact Below.refl _ _) | (with_reducible assumption) | ((with_reducible refine Below.setCell ?_ ?_ _); rotate_left; · (first | exact Nat.le_refl _ | (simp; done) | (simp; omega) | omega)) | ((with_reducible refine Below.alloc ?_ ?_ _); rotate_left; · (first | exact Nat.le_refl _ | (simp; done) | (simp; omega) | omega)) | (with_reducible apply Below.drew) | (with_reducible apply below_drewN') | (refine Below.trans ?_ (Below.mono (by assumption) (by first | exact Nat.le_refl _ | (simp; done) | (simp; omega) | omega))) | exact Below.refl _ _ | assumption))
  case ca4R79 => (first | (simp [Act.put]; done) | (simp [Act.put, *]; done))
  try dsimp only
  refine wpW_det (t' := ?ct5R79) 5 (by rfl) (by kernel_rfl) (NQ_free _) (by kernel_rfl) ?cw5R79 ?ch5R79 ?ca5R79 (Eq.refl _) ?cH5R79
  case cw5R79 => (go_simp; done)
  case ch5R79 =>
    intro ds w' hS K hK
    have hc := (bcell hS).1
    have hf := (bcell hS).2
    have hz := hS.size
    try simp at hz
    go_simp
    try go_bits
    first
      | exact hK _ hS (Gr.refl _)
      | exact hK _ (by repeat (first | (with_reducible exact Below.refl _ _) | (with_reducible assumption) | ((with_reducible refine Below.setCell ?_ ?_ _); rotate_left; · (first | exact Nat.le_refl _ | (simp; done) | (simp; omega) | omega)) | ((with_reducible refine Below.alloc ?_ ?_ _); rotate_left; · (first | exact Nat.le_refl _ | (simp; done) | (simp; omega) | omega)) | (with_reducible apply Below.drew) | (with_reducible apply below_drewN') | (refine Below.trans ?_ (Below.mono (by assumption) (by first | exact Nat.le_refl _ | (simp; done) | (simp; omega) | omega))) | exact Below.refl _ _ | assumption)) (by repeat (first | (with_reducible exact Below.refl _ _) | (with_reducible assumption) | ((with_reducible refine Below.setCell ?_ ?_ _); rotate_left; · (first | exact Nat.le_refl _ | (simp; done) | (simp; omega) | omega)) | ((with_reducible refine Below.alloc ?_ ?_ _); rotate_left; · (first | exact Nat.le_refl _ | (simp; done) | (simp; omega) | omega)) | (with_reducible apply Below.drew) | (with_reducible apply below_drewN') | (refine Below.trans ?_ (Below.mono (by assumption) (by first | exact Nat.le_refl _ | (simp; done) | (simp; omega) | omega))) | exact Below.refl _ _ | assumption))
  case ca5R79 => (first | (simp [Act.put]; done) | (simp [Act.put, *]; done))
  try dsimp only
  refine wpW_det (t' := ?ct6R79) 6 (by rfl) (by kernel_rfl) (NQ_free _) (by kernel_rfl) ?cw6R79 ?ch6R79 ?ca6R79 (Eq.refl _) ?cH6R79
  case cw6R79 => (go_simp; done)
  case ch6R79 =>
    intro ds w' hS K hK
    have hc := (bcell hS).1
    have hf := (bcell hS).2
    have hz := hS.size
    try simp at hz
    go_simp
    try go_bits
    first
      | exact hK _ hS (Gr.refl _)
      | exact hK _ (by repeat (first | (with_reducible exact Below.refl _ _) | (with_reducible assumption) | ((with_reducible refine Below.setCell ?_ ?_ _); rotate_left; · (first | exact Nat.le_refl _ | (simp; done) | (simp; omega) | omega)) | ((with_reducible refine Below.alloc ?_ ?_ _); rotate_left; · (first | exact Nat.le_refl _ | (simp; done) | (simp; omega) | omega)) | (with_reducible apply Below.drew) | (with_reducible apply below_drewN') | (refine Below.trans ?_ (Below.mono (by assumption) (by first | exact Nat.le_refl _ | (simp; done) | (simp; omega) | omega))) | exact Below.refl _ _ | assumption)) (by repeat (first | (with_reducible exact Below.refl _ _) | (with_reducible assumption) | ((with_reducible refine Below.setCell ?_ ?_ _); rotate_left; · (first | exact Nat.le_refl _ | (simp; done) | (simp; omega) | omega)) | ((with_reducible refine Below.alloc ?_ ?_ _); rotate_left; · (first | exact Nat.le_refl _ | (simp; done) | (simp; omega) | omega)) | (with_reducible apply Below.drew) | (with_reducible apply below_drewN') | (refine Below.trans ?_ (Below.mono (by assumption) (by first | exact Nat.le_refl _ | (simp; done) | (simp; omega) | omega))) | exact Below.refl _ _ | assumption))
  case ca6R79 => (first | (simp [Act.put]; done) | (simp [Act.put, *]; done))
  try dsimp only
  refine wpW_det (t' := ?ct7R79) 7 (by rfl) (by kernel_rfl) (NQ_free _) (by kernel_rfl) ?cw7R79 ?ch7R79 ?ca7R79 (Eq.refl _) ?cH7R79
  case cw7R79 => (go_simp; done)
  case ch7R79 =>
    intro ds w' hS K hK
    have hc := (bcell hS).1
    have hf := (bcell hS).2
    have hz := hS.size
    try simp at hz
    go_simp
    try go_bits
    first
      | exact hK _ hS (Gr.refl _)
      | exact hK _ (by repeat (first | (with_reducible exact Below.refl _ _) | (with_reducible assumption) | ((with_reducible refine Below.setCell ?_ ?_ _); rotate_left; · (first | exact Nat.le_refl _ | (simp; done) | (simp; omega) | omega)) | ((with_reducible refine Below.alloc ?_ ?_ _); rotate_left; · (first | exact Nat.le_refl _ | (simp; done) | (simp; omega) | omega)) | (with_reducible apply Below.drew) | (with_reducible apply below_drewN') | (refine Below.trans ?_ (Below.mono (by assumption) (by first | exact Nat.le_refl _ | (simp; done) | (simp; omega) | omega))) | exact Below.refl _ _ | assumption)) (by repeat (first | (with_reducible exact Below.refl _ _) | (with_reducible assumption) | ((with_reducible refine Below.setCell ?_ ?_ _); rotate_left; · (first | exact Nat.le_refl _ | (simp; done) | (simp; omega) | omega)) | ((with_reducible refine Below.alloc ?_ ?_ _); rotate_left; · (first | exact Nat.le_refl _ | (simp; done) | (simp; omega) | omega)) | (with_reducible apply Below.drew) | (with_reducible apply below_drewN') | (refine Below.trans ?_ (Below.mono (by assumption) (by first | exact Nat.le_refl _ | (simp; done) | (simp; omega) | omega))) | exact Below.refl _ _ | assumption))
  case ca7R79 => (first | (simp [Act.put]; done) | (simp [Act.put, *]; done))
  try dsimp only
  refine wpW_det (t' := ?ct8R79) 8 (by rfl) (by kernel_rfl) (NQ_free _) (by kernel_rfl) ?cw8R79 ?ch8R79 ?ca8R79 (Eq.refl _) ?cH8R79
  case cw8R79 => (go_simp; done)
  case ch8R79 =>
    intro ds w' hS K hK
    have hc := (bcell hS).1
    have hf := (bcell hS).2
    have hz := hS.size
    try simp at hz
    go_simp
    try go_bits
    first
      | exact hK _ hS (Gr.refl _)
      | exact hK _ (by repeat (first | (with_reducible exact Below.refl _ _) | (with_reducible assumption) | ((with_reducible refine Below.setCell ?_ ?_ _); rotate_left; · (first | exact Nat.le_refl _ | (simp; done) | (simp; omega) | omega)) | ((with_reducible refine Below.alloc ?_ ?_ _); rotate_left; · (first | exact Nat.le_refl _ | (simp; done) | (simp; omega) | omega)) | (with_reducible apply Below.drew) | (with_reducible apply below_drewN') | (refine Below.trans ?_ (Below.mono (by assumption) (by first | exact Nat.le_refl _ | (simp; done) | (simp; omega) | omega))) | exact Below.refl _ _ | assumption)) (by repeat (first | (with_reducible exact Below.refl _ _) | (with_reducible assumption) | ((with_reducible refine Below.setCell ?_ ?_ _); rotate_left; · (first | exact Nat.le_refl _ | (simp; done) | (simp; omega) | omega)) | ((with_reducible refine Below.alloc ?_ ?_ _); rotate_left; · (first | exact Nat.le_refl _ | (simp; done) | (simp; omega) | omega)) | (with_reducible apply Below.drew) | (with_reducible apply below_drewN') | (refine Below.trans ?_ (Below.mono (by assumption) (by first | exact Nat.le_refl _ | (simp; done) | (simp; omega) | omega))) | exact Below.refl _ _ | assumption))
  case ca8R79 => (first | (simp [Act.put]; done) | (simp [Act.put, *]; done))
  try dsimp only
  refine wpW_det (t' := ?ct9R79) 9 (by rfl) (by kernel_rfl) (NQ_free _) (by kernel_rfl) ?cw9R79 ?ch9R79 ?ca9R79 (Eq.refl _) ?cH9R79
  case cw9R79 => (go_simp; done)
  case ch9R79 =>
    intro ds w' hS K hK
    have hc := (bcell hS).1
    have hf := (bcell hS).2
    have hz := hS.size
    try simp at hz
    go_simp
    try go_bits
    first
      | exact hK _ hS (Gr.refl _)
      | exact hK _ (by repeat (first | (with_reducible exact Below.refl _ _) | (with_reducible assumption) | ((with_reducible refine Below.setCell ?_ ?_ _); rotate_left; · (first | exact Nat.le_refl _ | (simp; done) | (simp; omega) | omega)) | ((with_reducible refine Below.alloc ?_ ?_ _); rotate_left; · (first | exact Nat.le_refl _ | (simp; done) | (simp; omega) | omega)) | (with_reducible apply Below.drew) | (with_reducible apply below_drewN') | (refine Below.trans ?_ (Below.mono (by assumption) (by first | exact Nat.le_refl _ | (simp; done) | (simp; omega) | omega))) | exact Below.refl _ _ | assumption)) (by repeat (first | (with_reducible exact Below.refl _ _) | (with_reducible assumption) | ((with_reducible refine Below.setCell ?_ ?_ _); rotate_left; · (first | exact Nat.le_refl _ | (simp; done) | (simp; omega) | omega)) | ((with_reducible refine Below.alloc ?_ ?_ _); rotate_left; · (first | exact Nat.le_refl _ | (simp; done) | (simp; omega) | omega)) | (with_reducible apply Below.drew) | (with_reducible apply below_drewN') | (refine Below.trans ?_ (Below.mono (by assumption) (by first | exact Nat.le_refl _ | (simp; done) | (simp; omega) | omega))) | exact Below.refl _ _ | assumption))
  case ca9R79 => (first | (simp [Act.put]; done) | (simp [Act.put, *]; done))
  try dsimp only
  refine wpW_branch [1] (by kernel_rfl) (by simp) ?_
  intro v1 hg_v1 hS_v1
  refine each_cons ?_ each_nil
  refine wpOp_go (by rfl) (Eq.refl _) (by go_simp; done) ?_
  intro K hK
  go_simp
  try simp only [Act.put]
  refine (copyScans_any l A c B _ (HL.out _ hS_v1) hle (by have := Below.size hS_v1; omega) HNIL.out HD).mono ?_
  rintro e ws1 ⟨v2, L2, rfl, hc2, own2, each2, hBs⟩
  obtain ⟨A2, c2, rfl, hl2⟩ := copiedS hc2 own2 each2 (by omega) HSZ.out
  have Kd := HAT.out L2 hc2
  refine hK _ _ (Below.trans hS_v1 (hBs.mono (Below.size hS_v1))) ?_
  clear hK K own2 each2 hBs
  refine wpW_branch [10] (by kernel_rfl) (by simp) ?_
  intro v2 hg_v2 hS_v2
  refine each_cons ?_ each_nil
  refine wpOp_go (by rfl) (Eq.refl _) (by go_simp; done) ?_
  intro K hK
  go_simp
  try simp only [Act.put]
  refine (at_any L2 A2 c2 _ xr xc _ (hl2.below hg_v2 (Nat.le_refl _)) (Below.size hg_v2) HW.out.1 HW.out.2).mono ?_
  rw [Kd.1, Kd.2]
  rintro e ws2 ⟨rfl, hBs⟩
  refine hK _ _ (Below.trans hS_v2 (hBs.mono (Below.size hS_v2))) ?_
  clear hK K hBs Kd hl2
  refine wpW_det (t' := ?ct11R80) 11 (by rfl) (by kernel_rfl) (NQ_free _) (by kernel_rfl) ?cw11R80 ?ch11R80 ?ca11R80 (Eq.refl _) ?cH11R80
  case cw11R80 => (go_simp; done)
  case ch11R80 =>
    intro ds w' hS K hK
    have hc := (bcell hS).1
    have hf := (bcell hS).2
    have hz := hS.size
    try simp at hz
    go_simp
    try go_bits
    first
      | exact hK _ hS (Gr.refl _)
      | exact hK _ (by repeat (first | (with_reducible exact Below.refl _ _) | (with_reducible assumption) | ((with_reducible refine Below.setCell ?_ ?_ _); rotate_left; · (first | exact Nat.le_refl _ | (simp; done) | (simp; omega) | omega)) | ((with_reducible refine Below.alloc ?_ ?_ _); rotate_left; · (first | exact Nat.le_refl _ | (simp; done) | (simp; omega) | omega)) | (with_reducible apply Below.drew) | (with_reducible apply below_drewN') | (refine Below.trans ?_ (Below.mono (by assumption) (by first | exact Nat.le_refl _ | (simp; done) | (simp; omega) | omega))) | exact Below.refl _ _ | assumption)) (by repeat (first | (with_reducible exact Below.refl _ _) | (with_reducible assumption) | ((with_reducible refine Below.setCell ?_ ?_ _); rotate_left; · (first | exact Nat.le_refl _ | (simp; done) | (simp; omega) | omega)) | ((with_reducible refine Below.alloc ?_ ?_ _); rotate_left; · (first | exact Nat.le_refl _ | (simp; done) | (simp; omega) | omega)) | (with_reducible apply Below.drew) | (with_reducible apply below_drewN') | (refine Below.trans ?_ (Below.mono (by assumption) (by first | exact Nat.le_refl _ | (simp; done) | (simp; omega) | omega))) | exact Below.refl _ _ | assumption))
  case ca11R80 => (first | (simp [Act.put]; done) | (simp [Act.put, *]; done))
  try dsimp only
  refine wpW_det (t' := ?ct12R80) 12 (by rfl) (by kernel_rfl) (NQ_free _) (by kernel_rfl) ?cw12R80 ?ch12R80 ?ca12R80 (Eq.refl _) ?cH12R80
  case cw12R80 => (go_simp; done)
  case ch12R80 =>
    intro ds w' hS K hK
    have hc := (bcell hS).1
    have hf := (bcell hS).2
    have hz := hS.size
    try simp at hz
    go_simp
    try go_bits
    first
      | exact hK _ hS (Gr.refl _)
      | exact hK _ (by repeat (first | (with_reducible exact Below.refl _ _) | (with_reducible assumption) | ((with_reducible refine Below.setCell ?_ ?_ _); rotate_left; · (first | exact Nat.le_refl _ | (simp; done) | (simp; omega) | omega)) | ((with_reducible refine Below.alloc ?_ ?_ _); rotate_left; · (first | exact Nat.le_refl _ | (simp; done) | (simp; omega) | omega)) | (with_reducible apply Below.drew) | (with_reducible apply below_drewN') | (refine Below.trans ?_ (Below.mono (by assumption) (by first | exact Nat.le_refl _ | (simp; done) | (simp; omega) | omega))) | exact Below.refl _ _ | assumption)) (by repeat (first | (with_reducible exact Below.refl _ _) | (with_reducible assumption) | ((with_reducible refine Below.setCell ?_ ?_ _); rotate_left; · (first | exact Nat.le_refl _ | (simp; done) | (simp; omega) | omega)) | ((with_reducible refine Below.alloc ?_ ?_ _); rotate_left; · (first | exact Nat.le_refl _ | (simp; done) | (simp; omega) | omega)) | (with_reducible apply Below.drew) | (with_reducible apply below_drewN') | (refine Below.trans ?_ (Below.mono (by assumption) (by first | exact Nat.le_refl _ | (simp; done) | (simp; omega) | omega))) | exact Below.refl _ _ | assumption))
  case ca12R80 => (first | (simp [Act.put]; done) | (simp [Act.put, *]; done))
  try dsimp only
  refine wpW_det (t' := ?ct13R80) 13 (by rfl) (by kernel_rfl) (NQ_free _) (by kernel_rfl) ?cw13R80 ?ch13R80 ?ca13R80 (Eq.refl _) ?cH13R80
  case cw13R80 => (go_simp; done)
  case ch13R80 =>
    intro ds w' hS K hK
    have hc := (bcell hS).1
    have hf := (bcell hS).2
    have hz := hS.size
    try simp at hz
    go_simp
    try go_bits
    first
      | exact hK _ hS (Gr.refl _)
      | exact hK _ (by repeat (first | (with_reducible exact Below.refl _ _) | (with_reducible assumption) | ((with_reducible refine Below.setCell ?_ ?_ _); rotate_left; · (first | exact Nat.le_refl _ | (simp; done) | (simp; omega) | omega)) | ((with_reducible refine Below.alloc ?_ ?_ _); rotate_left; · (first | exact Nat.le_refl _ | (simp; done) | (simp; omega) | omega)) | (with_reducible apply Below.drew) | (with_reducible apply below_drewN') | (refine Below.trans ?_ (Below.mono (by assumption) (by first | exact Nat.le_refl _ | (simp; done) | (simp; omega) | omega))) | exact Below.refl _ _ | assumption)) (by repeat (first | (with_reducible exact Below.refl _ _) | (with_reducible assumption) | ((with_reducible refine Below.setCell ?_ ?_ _); rotate_left; · (first | exact Nat.le_refl _ | (simp; done) | (simp; omega) | omega)) | ((with_reducible refine Below.alloc ?_ ?_ _); rotate_left; · (first | exact Nat.le_refl _ | (simp; done) | (simp; omega) | omega)) | (with_reducible apply Below.drew) | (with_reducible apply below_drewN') | (refine Below.trans ?_ (Below.mono (by assumption) (by first | exact Nat.le_refl _ | (simp; done) | (simp; omega) | omega))) | exact Below.refl _ _ | assumption))
  case ca13R80 => (first | (simp [Act.put]; done) | (simp [Act.put, *]; done))
  try dsimp only
  refine wpW_det (t' := ?ct14R80) 14 (by rfl) (by kernel_rfl) (NQ_free _) (by kernel_rfl) ?cw14R80 ?ch14R80 ?ca14R80 (Eq.refl _) ?cH14R80
  case cw14R80 => (go_simp; done)
  case ch14R80 =>
    intro ds w' hS K hK
    have hc := (bcell hS).1
    have hf := (bcell hS).2
    have hz := hS.size
    try simp at hz
    go_simp
    try go_bits
    first
      | exact hK _ hS (Gr.refl _)
      | exact hK _ (by repeat (first | (with_reducible exact Below.refl _ _) | (with_reducible assumption) | ((with_reducible refine Below.setCell ?_ ?_ _); rotate_left; · (first | exact Nat.le_refl _ | (simp; done) | (simp; omega) | omega)) | ((with_reducible refine Below.alloc ?_ ?_ _); rotate_left; · (first | exact Nat.le_refl _ | (simp; done) | (simp; omega) | omega)) | (with_reducible apply Below.drew) | (with_reducible apply below_drewN') | (refine Below.trans ?_ (Below.mono (by assumption) (by first | exact Nat.le_refl _ | (simp; done) | (simp; omega) | omega))) | exact Below.refl _ _ | assumption)) (by repeat (first | (with_reducible exact Below.refl _ _) | (with_reducible assumption) | ((with_reducible refine Below.setCell ?_ ?_ _); rotate_left; · (first | exact Nat.le_refl _ | (simp; done) | (simp; omega) | omega)) | ((with_reducible refine Below.alloc ?_ ?_ _); rotate_left; · (first | exact Nat.le_refl _ | (simp; done) | (simp; omega) | omega)) | (with_reducible apply Below.drew) | (with_reducible apply below_drewN') | (refine Below.trans ?_ (Below.mono (by assumption) (by first | exact Nat.le_refl _ | (simp; done) | (simp; omega) | omega))) | exact Below.refl _ _ | assumption))
  case ca14R80 => (first | (simp [Act.put]; done) | (simp [Act.put, *]; done))
  try dsimp only
  refine wpW_det (t' := ?ct15R80) 15 (by rfl) (by kernel_rfl) (NQ_free _) (by kernel_rfl) ?cw15R80 ?ch15R80 ?ca15R80 (Eq.refl _) ?cH15R80
  case cw15R80 => (go_simp; done)
  case ch15R80 =>
    intro ds w' hS K hK
    have hc := (bcell hS).1
    have hf := (bcell hS).2
    have hz := hS.size
    try simp at hz
    go_simp
    try go_bits
    first
      | exact hK _ hS (Gr.refl _)
      | exact hK _ (by repeat (first | (with_reducible exact Below.refl _ _) | (with_reducible assumption) | ((with_reducible refine Below.setCell ?_ ?_ _); rotate_left; · (first | exact Nat.le_refl _ | (simp; done) | (simp; omega) | omega)) | ((with_reducible refine Below.alloc ?_ ?_ _); rotate_left; · (first | exact Nat.le_refl _ | (simp; done) | (simp; omega) | omega)) | (with_reducible apply Below.drew) | (with_reducible apply below_drewN') | (refine Below.trans ?_ (Below.mono (by assumption) (by first | exact Nat.le_refl _ | (simp; done) | (simp; omega) | omega))) | exact Below.refl _ _ | assumption)) (by repeat (first | (with_reducible exact Below.refl _ _) | (with_reducible assumption) | ((with_reducible refine Below.setCell ?_ ?_ _); rotate_left; · (first | exact Nat.le_refl _ | (simp; done) | (simp; omega) | omega)) | ((with_reducible refine Below.alloc ?_ ?_ _); rotate_left; · (first | exact Nat.le_refl _ | (simp; done) | (simp; omega) | omega)) | (with_reducible apply Below.drew) | (with_reducible apply below_drewN') | (refine Below.trans ?_ (Below.mono (by assumption) (by first | exact Nat.le_refl _ | (simp; done) | (simp; omega) | omega))) | exact Below.refl _ _ | assumption))
  case ca15R80 => (first | (simp [Act.put]; done) | (simp [Act.put, *]; done))
  try dsimp only
  refine wpW_end (by kernel_rfl) ?_
  intro we hg hS
  unfold NQ
  dsimp only
  exact H.out _ _ _ _ _ _ _ _ _ _ _ _ _ _ we hS
end Go.Proofs.YtidgeagpgllkeaaGreat

namespace Go.Proofs.YtidgeagpgllkeaaGreat
open Go.RowKit

set_option maxRecDepth 100000 in
set_option maxHeartbeats 4000000 in
/-- Whether an area lies in some area of the lesser level (loop 2). -/
theorem levLoop2 {g : Int → Int → Int} {As Bs : List ArA} {A1 A2 : Option Addr} {c1 c2 B1 B2 : Nat} {V wr0 : World} (hA1 : ArsOk g As A1 B1 V) (hA2 : ArsOk g Bs A2 B2 V) (hB1 : B1 ≤ V.heap.size) (hB2 : B2 ≤ V.heap.size) {i : Nat} (hi : i < Bs.length) (hx : Below V.heap.size V wr0) {t0 t1 t2 t3 t4 t5 t6 t7 t8 t10 t12 t13 t17 t18 t19 t20 t21 t22 t23 t24 t25 t26 t27 t28 t29 t30 t31 t32 t33 t34 t35 t36 t37 t38 t39 t40 t41 t42 t43 t44 t45 t46 t47 t48 t49 t50 t51 t52 t53 t54 t55 t56 t57 t58 t59 t60 t61 t62 t63 t64 t65 t66 t67 t68 t69 t70 t71 t72 t73 t74 t75 t76 t77 t78 t79 t80 t81 t82 t83 t84 t85 t86 t87 t88 t89 t90 t91 t92 t93 t94 t95 t96 t97 t98 t99 t100 t101 t102 t103 t104 t105 t106 t107 t108 t109 t110 t111 t112 t113 t114 t115 t116 t117 t118 t119 t120 t121 t122 t123 t124 t125 t126 t127 t128 t129 t130 t131 t132 t133 t134 t135 t136 t137 t138 t139 t140 t141 t142 t143 t144 t145 t146 t147 t148 t149 t150 t151 t152 t153 t154 t155 t156 t157 t158 t159 t160 t161 t162 t163 t164 t165 t166 t167 t168 : Value} {ds : List Deferred} (Q' : Exit → Act → World → Prop)
    (h : ∀ (t16 t80 t81 t82 t83 t84 t85 t86 t87 t88 t89 t90 t91 t92 t93 t94 t95 t96 t97 : Value) (w' : World), Below V.heap.size V w' → Q' (.exit 2) ⟨#[t0, t1, t2, t3, t4, t5, t6, t7, t8, .slice A1 As.length c1, t10, .slice A2 Bs.length c2, t12, t13, .int .i64 (i : Int), .bool (As.any fun a => subB Bs[i].2 a.2), t16, t17, t18, t19, t20, t21, t22, t23, t24, t25, t26, t27, t28, t29, t30, t31, t32, t33, t34, t35, t36, t37, t38, t39, t40, t41, t42, t43, t44, t45, t46, t47, t48, t49, t50, t51, t52, t53, t54, t55, t56, t57, t58, t59, t60, t61, t62, t63, t64, t65, t66, t67, t68, t69, t70, t71, t72, t73, t74, t75, t76, t77, t78, t79, t80, t81, t82, t83, t84, t85, t86, t87, t88, t89, t90, t91, t92, t93, t94, t95, t96, t97, t98, t99, t100, t101, t102, t103, t104, t105, t106, t107, t108, t109, t110, t111, t112, t113, t114, t115, t116, t117, t118, t119, t120, t121, t122, t123, t124, t125, t126, t127, t128, t129, t130, t131, t132, t133, t134, t135, t136, t137, t138, t139, t140, t141, t142, t143, t144, t145, t146, t147, t148, t149, t150, t151, t152, t153, t154, t155, t156, t157, t158, t159, t160, t161, t162, t163, t164, t165, t166, t167, t168], ds⟩ w') :
    (Code.loop (bodyOf Tryz.f11 1)).wp Tryz.prog Q' ⟨#[t0, t1, t2, t3, t4, t5, t6, t7, t8, .slice A1 As.length c1, t10, .slice A2 Bs.length c2, t12, t13, .int .i64 (i : Int), .bool false, .int .i64 0, t17, t18, t19, t20, t21, t22, t23, t24, t25, t26, t27, t28, t29, t30, t31, t32, t33, t34, t35, t36, t37, t38, t39, t40, t41, t42, t43, t44, t45, t46, t47, t48, t49, t50, t51, t52, t53, t54, t55, t56, t57, t58, t59, t60, t61, t62, t63, t64, t65, t66, t67, t68, t69, t70, t71, t72, t73, t74, t75, t76, t77, t78, t79, t80, t81, t82, t83, t84, t85, t86, t87, t88, t89, t90, t91, t92, t93, t94, t95, t96, t97, t98, t99, t100, t101, t102, t103, t104, t105, t106, t107, t108, t109, t110, t111, t112, t113, t114, t115, t116, t117, t118, t119, t120, t121, t122, t123, t124, t125, t126, t127, t128, t129, t130, t131, t132, t133, t134, t135, t136, t137, t138, t139, t140, t141, t142, t143, t144, t145, t146, t147, t148, t149, t150, t151, t152, t153, t154, t155, t156, t157, t158, t159, t160, t161, t162, t163, t164, t165, t166, t167, t168], ds⟩ wr0 := by
  have H := Lib.hid h; clear h
  have hln := hA1.len
  have HRG := Lib.hid (fun m hml wr (hx : Below V.heap.size V wr) => @levReg20 g As Bs A1 A2 c1 c2 B1 B2 wr (hA1.below hx hB1) (hA2.below hx hB2) (by have := Below.size hx; omega) (by have := Below.size hx; omega) i m hi hml)
  obtain ⟨lb, hlb⟩ : ∃ lb, Bs[i].2 = lb := ⟨_, rfl⟩
  simp only [hlb] at HRG H
  clear hlb hA1 hA2
  conv in (bodyOf _ _) => whnf
  dsimp only
  go_loopw [15, 16] (fun s15 s16 wr => ∃ (m : Nat) (D : Bool), m ≤ As.length ∧ s15 = .bool D ∧ s16 = .int .i64 m ∧ Hid (D = (As.take m).any fun a => subB lb a.2) ∧ Below V.heap.size V wr) (fun _ s16 _ => As.length - (intOf s16).toNat)
  case atStart => exact ⟨0, false, Nat.zero_le _, rfl, by go_num, Lib.hid (by simp), hx⟩
  case round =>
    clear hx
    obtain ⟨m, D, hmm, rfl, rfl, HDD, hx⟩ := hrel
    have hzx := Below.size hx
    by_cases hml : m < As.length
    · have HT : Hid ((As.take (m + 1)).any (fun a => subB lb a.2) = ((As.take m).any (fun a => subB lb a.2) || subB lb As[m].2)) := Lib.hid (by rw [List.take_succ_eq_append_getElem hml, List.any_append]; simp)
      cases D with
      | true =>
        have HX : Hid (true = (As.take (m + 1)).any fun a => subB lb a.2) := Lib.hid (by rw [HT.out, ← HDD.out]; rfl)
        go_wp2_with fail
        go_quiet (fail)
        go_wp2
        exact ⟨⟨m + 1, true, by omega, rfl, by go_num, HX, below_drewN' hx _⟩, by simp [intOf]; omega⟩
      | false =>
        have HX : Hid (subB lb As[m].2 = (As.take (m + 1)).any fun a => subB lb a.2) := Lib.hid (by rw [HT.out, ← HDD.out]; rfl)
        go_upto_region 20 with fail
        refine HRG.out m hml _ hx _ ?_
        intro t86 t87 t88 t89 t90 t91 t92 t93 t94 t95 t96 t97 w20 hB20
        try dsimp only
        replace hx := hx.trans (hB20.mono hzx)
        clear hB20
        go_wp2
        exact ⟨⟨m + 1, _, by omega, rfl, by go_num, HX, hx⟩, by simp [intOf]; omega⟩
    · obtain rfl : m = As.length := by omega
      have hD : D = As.any fun a => subB lb a.2 := by rw [HDD.out, List.take_length]
      subst hD
      go_wp2
      exact H.out _ _ _ _ _ _ _ _ _ _ _ _ _ _ _ _ _ _ _ _ hx

set_option maxRecDepth 100000 in
set_option maxHeartbeats 4000000 in
/-- The cells of an area (loop 3). -/
theorem levLoop3 (l : List Sc) (A : Option Addr) (c B : Nat) (level more : Int) (corners : Bool) {V wr0 : World} {q : Nat} (HL : Hid (∀ w', Below V.heap.size V w' → ScOk l A B w')) (hB : B ≤ V.heap.size) (hle : l.length ≤ c) (hl6 : l.length ≤ 6) (HNIL : Hid (A = none → c = 0)) (HD : Hid (∀ s ∈ l, s.data.length ≤ s.dcap ∧ (s.dA = none → s.dcap = 0))) (HSZ : Hid (∀ s ∈ l, s.data.length ≤ 1000000000))
    (b4 : Blk V q 24 #[.int .i64 level, .bool corners]) {n c2 g2 o2 i cb C : Nat} {Ab : Option Addr} {lb : List (Int × Int)} {v2 : Int} (hi : i < n) (_hn : n ≤ 9223372036854775807) (hg2 : g2 < V.heap.size) (y0 : V.cell? ⟨g2, o2 + i * 4, none⟩ = some (.slice Ab lb.length cb)) (y3 : V.cell? ⟨g2, o2 + i * 4 + 3, none⟩ = some (.int .i64 v2)) (rb : Row V C 2 Ab lb.length (cellsC lb)) (hC : C ≤ V.heap.size) (hlb : lb.length ≤ 9223372036854775807)
    (hlv : 0 ≤ level ∧ level ≤ 1000000000) (hm : 0 ≤ more ∧ more ≤ 1000000000 - level) (HMOST : Hid (∀ x ∈ lb, level + more ≤ atV l x.1 x.2 ∧ atV l x.1 x.2 ≤ v2)) (HAT : Hid (∀ x y, 0 ≤ atV l x y → (W64 x ∧ W64 y) ∧ ∀ L : List Sc, L.map Sc.core = l.map Sc.core → (atE L x y).1 = atV l x y ∧ (atE L x y).2 = 0)) (hx : Below V.heap.size V wr0) {t1 t3 t5 t6 t7 t8 t9 t10 t12 t13 t15 t16 t18 t19 t20 t21 t22 t23 t24 t25 t26 t27 t28 t29 t30 t31 t32 t33 t34 t35 t36 t37 t38 t39 t40 t41 t42 t43 t44 t45 t46 t47 t48 t49 t50 t51 t52 t53 t54 t55 t56 t57 t58 t59 t60 t61 t62 t63 t64 t65 t66 t67 t68 t69 t70 t71 t72 t73 t74 t75 t76 t77 t78 t79 t80 t81 t82 t83 t84 t85 t86 t87 t88 t89 t90 t91 t92 t93 t94 t95 t96 t97 t98 t99 t100 t101 t102 t103 t104 t105 t106 t107 t108 t109 t110 t111 t112 t113 t114 t115 t116 t117 t118 t119 t120 t121 t122 t123 t124 t125 t126 t127 t128 t129 t130 t131 t132 t133 t134 t135 t136 t137 t138 t139 t140 t141 t142 t143 t144 t145 t146 t147 t148 t149 t150 t151 t152 t153 t154 t155 t156 t157 t158 t159 t160 t161 t162 t163 t164 t165 t166 t167 t168 : Value} {ds : List Deferred} (Q' : Exit → Act → World → Prop)
    (h : ∀ (t6 t17 t18 t19 t117 t118 t119 t120 t121 t122 t123 t124 t125 t126 t127 t128 t129 t130 t131 t132 t133 t134 t135 t136 t137 t138 t139 t140 t141 t142 t143 t144 t145 t146 t147 t148 t149 t150 t151 t152 t153 t154 t155 t156 t157 t158 t159 : Value) (w' : World), Below V.heap.size V w' → Q' (.exit 4) ⟨#[.slice A l.length c, t1, .int .i64 more, t3, .pointer (some ⟨q, 0, none⟩), t5, t6, t7, t8, t9, t10, .slice (some ⟨g2, o2, none⟩) n c2, t12, t13, .int .i64 (i : Int), t15, t16, t17, t18, t19, t20, t21, t22, t23, t24, t25, t26, t27, t28, t29, t30, t31, t32, t33, t34, t35, t36, t37, t38, t39, t40, t41, t42, t43, t44, t45, t46, t47, t48, t49, t50, t51, t52, t53, t54, t55, t56, t57, t58, t59, t60, t61, t62, t63, t64, t65, t66, t67, t68, t69, t70, t71, t72, t73, t74, t75, t76, t77, t78, t79, t80, t81, t82, t83, t84, t85, t86, t87, t88, t89, t90, t91, t92, t93, t94, t95, t96, t97, t98, t99, t100, t101, t102, t103, t104, t105, t106, t107, t108, t109, t110, t111, t112, t113, t114, t115, t116, t117, t118, t119, t120, t121, t122, t123, t124, t125, t126, t127, t128, t129, t130, t131, t132, t133, t134, t135, t136, t137, t138, t139, t140, t141, t142, t143, t144, t145, t146, t147, t148, t149, t150, t151, t152, t153, t154, t155, t156, t157, t158, t159, t160, t161, t162, t163, t164, t165, t166, t167, t168], ds⟩ w') :
    (Code.loop (bodyOf Tryz.f11 2)).wp Tryz.prog Q' ⟨#[.slice A l.length c, t1, .int .i64 more, t3, .pointer (some ⟨q, 0, none⟩), t5, t6, t7, t8, t9, t10, .slice (some ⟨g2, o2, none⟩) n c2, t12, t13, .int .i64 (i : Int), t15, t16, .int .i64 0, t18, t19, t20, t21, t22, t23, t24, t25, t26, t27, t28, t29, t30, t31, t32, t33, t34, t35, t36, t37, t38, t39, t40, t41, t42, t43, t44, t45, t46, t47, t48, t49, t50, t51, t52, t53, t54, t55, t56, t57, t58, t59, t60, t61, t62, t63, t64, t65, t66, t67, t68, t69, t70, t71, t72, t73, t74, t75, t76, t77, t78, t79, t80, t81, t82, t83, t84, t85, t86, t87, t88, t89, t90, t91, t92, t93, t94, t95, t96, t97, t98, t99, t100, t101, t102, t103, t104, t105, t106, t107, t108, t109, t110, t111, t112, t113, t114, t115, t116, t117, t118, t119, t120, t121, t122, t123, t124, t125, t126, t127, t128, t129, t130, t131, t132, t133, t134, t135, t136, t137, t138, t139, t140, t141, t142, t143, t144, t145, t146, t147, t148, t149, t150, t151, t152, t153, t154, t155, t156, t157, t158, t159, t160, t161, t162, t163, t164, t165, t166, t167, t168], ds⟩ wr0 := by
  have H := Lib.hid h; clear h
  have HY : Hid (∀ wr, Below V.heap.size V wr → wr.cell? ⟨g2, o2 + i * 4, none⟩ = some (.slice Ab lb.length cb) ∧ wr.cell? ⟨g2, o2 + i * 4 + 3, none⟩ = some (.int .i64 v2)) := Lib.hid (fun wr h => ⟨(h.cell (p := ⟨g2, o2 + i * 4, none⟩) hg2).trans y0, (h.cell (p := ⟨g2, o2 + i * 4 + 3, none⟩) hg2).trans y3⟩)
  clear y0 y3
  have i1 : ((i : Int) < (n : Int)) := by omega
  conv in (bodyOf _ _) => whnf
  dsimp only
  go_loopw [17] (fun s17 wr => ∃ k : Nat, k ≤ lb.length ∧ s17 = .int .i64 k ∧ Below V.heap.size V wr) (fun s17 _ => lb.length - (intOf s17).toNat)
  case atStart => exact ⟨0, Nat.zero_le _, by go_num, hx⟩
  case round =>
    clear hx
    obtain ⟨k, hk, rfl, hx⟩ := hrel
    have hzx := Below.size hx
    have lg2' : g2 < wr.heap.size := by omega
    obtain ⟨y0, y3⟩ := HY.out wr hx
    by_cases hkl : k < lb.length
    · have hmo := HMOST.out _ (List.getElem_mem hkl)
      have hat := HAT.out lb[k].1 lb[k].2 (by omega)
      have HW := Lib.hid hat.1
      obtain ⟨v, hv⟩ : ∃ v, atV l lb[k].1 lb[k].2 = v := ⟨_, rfl⟩
      rw [hv] at hat hmo
      have HA2 := Lib.hid hat.2
      obtain ⟨hv1, hv2⟩ := hmo
      clear hv hat
      go_upto_region 27 with fail
      refine levReg27 l A c B (Lib.hid (fun w' h => HL.out w' (hx.trans (h.mono hzx)))) (by omega) hle hl6 HNIL HD HSZ hi lg2' y0 (rb.below hx hC) (by omega) hkl v HW HA2 _ ?_
      intro t127 t128 t129 t130 t131 t132 t133 t134 t135 t136 t137 t138 t139 t140 w27 hB27
      try dsimp only
      replace hx := hx.trans (hB27.mono hzx)
      clear hB27 y0 y3 lg2' hzx
      have hzx := Below.size hx
      have lg2' : g2 < w27.heap.size := by omega
      obtain ⟨y0, y3⟩ := HY.out w27 hx
      have b4' := b4.gr hx
      obtain ⟨e0, e1, f4⟩ := blk2c b4'
      have l4 := b4'.lt
      go_wp2
      exact ⟨⟨k + 1, by omega, by go_num, hx⟩, by simp [intOf]; omega⟩
    · obtain rfl : k = lb.length := by omega
      go_wp2
      exact H.out _ _ _ _ _ _ _ _ _ _ _ _ _ _ _ _ _ _ _ _ _ _ _ _ _ _ _ _ _ _ _ _ _ _ _ _ _ _ _ _ _ _ _ _ _ _ _ _ hx
end Go.Proofs.YtidgeagpgllkeaaGreat
