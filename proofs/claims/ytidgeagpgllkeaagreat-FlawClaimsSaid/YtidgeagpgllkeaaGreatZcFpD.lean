/- Plain law: pairs and covers of two lists; no pairs that are right are more than a right cover's members. Contract: whether pairs are right. -/
import Derived.Test.YtidgeagpgllkeaaGreatZcFkA
import Derived.Test.YtidgeagpgllkeaaGreatZcFpB
namespace Go.Proofs.YtidgeagpgllkeaaGreat

/-- The first error of so many. -/
def firstBad (f : Nat → Int) : Nat → Int
  | 0 => 0
  | n + 1 => if firstBad f n = 0 then f n else firstBad f n
theorem firstBad_pre {f : Nat → Int} : ∀ {k : Nat}, (∀ j, j < k → f j = 0) → firstBad f k = 0
  | 0, _ => rfl
  | k + 1, h => by
    unfold firstBad
    rw [if_pos (firstBad_pre fun j hj => h j (by omega))]
    exact h k (by omega)
theorem firstBad_at {f : Nat → Int} {k : Nat} (h : ∀ j, j < k → f j = 0) (he : f k ≠ 0) : ∀ {n : Nat}, k < n → firstBad f n = f k
  | 0, hk => by omega
  | n + 1, hk => by
    unfold firstBad
    by_cases e : k = n
    · subst e; rw [if_pos (firstBad_pre h)]
    · rw [firstBad_at h he (n := n) (by omega), if_neg he]
theorem firstBad_zero {f : Nat → Int} : ∀ {n : Nat}, firstBad f n = 0 → ∀ j, j < n → f j = 0
  | 0, _, j, hj => by omega
  | n + 1, h, j, hj => by
    unfold firstBad at h
    split at h
    · rename_i h0
      by_cases e : j = n
      · subst e; exact h
      · exact firstBad_zero h0 j (by omega)
    · rename_i h0; exact absurd h h0
/-- The error of a pair behind others. -/
def pairB (n m : Nat) (R : Int → Int → Bool) (seen : List (Int × Int)) (p : Int × Int) : Int :=
  if (wi p.1 0 ((n : Int) - 1) && wi p.2 0 ((m : Int) - 1)) = false then 6
  else if (seen.any (fun q => decide (q.1 = p.1)) || seen.any (fun q => decide (q.2 = p.2))) = true then 24
  else if R p.1 p.2 = false then 18 else 0
def pairsB (n m : Nat) (R : Int → Int → Bool) (P : List (Int × Int)) (k : Nat) : Int := pairB n m R (P.take k) (P[k]?.getD (0, 0))
def pairsE (n m : Nat) (R : Int → Int → Bool) (P : List (Int × Int)) : Int := firstBad (pairsB n m R P) P.length
theorem pairB_zero {n m : Nat} {R : Int → Int → Bool} {seen : List (Int × Int)} {p : Int × Int} (h : pairB n m R seen p = 0) :
    (0 ≤ p.1 ∧ p.1 < n) ∧ (0 ≤ p.2 ∧ p.2 < m) ∧ (∀ q ∈ seen, q.1 ≠ p.1 ∧ q.2 ≠ p.2) ∧ R p.1 p.2 = true := by
  unfold pairB at h
  split at h
  · cases h
  · rename_i h1
    split at h
    · cases h
    · rename_i h2
      split at h
      · cases h
      · rename_i h3
        simp [wi] at h1
        simp only [Bool.or_eq_true, not_or, List.any_eq_true, decide_eq_true_eq, not_exists, not_and] at h2
        refine ⟨by omega, by omega, fun q hq => ⟨h2.1 q hq, h2.2 q hq⟩, by simpa using h3⟩
/-- Right pairs. -/
structure PairsOk (n m : Nat) (R : Int → Int → Bool) (P : List (Int × Int)) : Prop where
  one : ∀ p ∈ P, (0 ≤ p.1 ∧ p.1 < n) ∧ (0 ≤ p.2 ∧ p.2 < m) ∧ R p.1 p.2 = true
  apart : P.Pairwise fun p q => p.1 ≠ q.1 ∧ p.2 ≠ q.2
theorem pairsE_ok {n m : Nat} {R : Int → Int → Bool} {P : List (Int × Int)} (h : pairsE n m R P = 0) : PairsOk n m R P := by
  have hz := firstBad_zero h
  have key : ∀ k (hk : k < P.length), pairB n m R (P.take k) P[k] = 0 := fun k hk => by
    have := hz k hk
    unfold pairsB at this
    rwa [List.getElem?_eq_getElem hk] at this
  refine ⟨fun p hp => ?_, List.pairwise_iff_getElem.2 fun i k hi hk hik => ?_⟩
  · obtain ⟨k, hk, rfl⟩ := List.getElem_of_mem hp
    obtain ⟨a, b, _, c⟩ := pairB_zero (key k hk)
    exact ⟨a, b, c⟩
  · obtain ⟨_, _, c, _⟩ := pairB_zero (key k hk)
    exact c _ (List.mem_take_iff_getElem.2 ⟨i, by omega, rfl⟩)
theorem PairsOk.e {n m : Nat} {R : Int → Int → Bool} {P : List (Int × Int)} (h : PairsOk n m R P) : pairsE n m R P = 0 := by
  refine firstBad_pre fun k hk => ?_
  unfold pairsB
  rw [List.getElem?_eq_getElem hk]
  obtain ⟨a, b, c⟩ := h.one _ (List.getElem_mem hk)
  have hp := List.pairwise_iff_getElem.1 h.apart
  have hn : ∀ q ∈ P.take k, q.1 ≠ P[k].1 ∧ q.2 ≠ P[k].2 := fun q hq => by
    obtain ⟨i, hi, rfl⟩ := List.mem_take_iff_getElem.1 hq
    exact hp i k (by omega) hk (by omega)
  unfold pairB
  show (if (wi P[k].1 0 ((n : Int) - 1) && wi P[k].2 0 ((m : Int) - 1)) = false then 6 else _) = (0 : Int)
  rw [if_neg (by simp [wi]; omega), if_neg, if_neg (by simp [c])]
  simp only [Bool.or_eq_true, not_or, List.any_eq_true, decide_eq_true_eq, not_exists, not_and]
  exact ⟨fun q hq => (hn q hq).1, fun q hq => (hn q hq).2⟩
/-- The error of ascending numbers. -/
def numbB (n : Nat) (L : List Int) (k : Nat) : Int :=
  if wi (L[k]?.getD 0) 0 ((n : Int) - 1) = false then 6 else if 0 < k ∧ L[k]?.getD 0 ≤ L[k - 1]?.getD 0 then 9 else 0
def numbE (n : Nat) (L : List Int) : Int := firstBad (numbB n L) L.length
def openB (R : Int → Int → Bool) (F S : List Int) (i k : Int) : Bool := R i k && !F.contains i && !S.contains k
def coverB (n m : Nat) (R : Int → Int → Bool) (F S : List Int) : Bool := (List.range n).all fun i => (List.range m).all fun k => !openB R F S i k
def coverE (n m : Nat) (R : Int → Int → Bool) (F S : List Int) : Int :=
  if numbE n F = 0 then if numbE m S = 0 then if coverB n m R F S then 0 else 18 else numbE m S else numbE n F
/-- A right cover. -/
structure CovOk (n m : Nat) (R : Int → Int → Bool) (F S : List Int) : Prop where
  f : numbE n F = 0
  s : numbE m S = 0
  all : ∀ i k : Int, 0 ≤ i → i < n → 0 ≤ k → k < m → R i k = true → i ∈ F ∨ k ∈ S
theorem coverE_ok {n m : Nat} {R : Int → Int → Bool} {F S : List Int} (h : coverE n m R F S = 0) : CovOk n m R F S := by
  unfold coverE at h
  split at h
  · rename_i h1
    split at h
    · rename_i h2
      split at h
      · rename_i h3
        refine ⟨h1, h2, fun i k hi hin hk hkm hR => ?_⟩
        have := List.all_eq_true.1 (List.all_eq_true.1 h3 i.toNat (List.mem_range.2 (by omega))) k.toNat (List.mem_range.2 (by omega))
        rw [show ((i.toNat : Nat) : Int) = i by omega, show ((k.toNat : Nat) : Int) = k by omega] at this
        unfold openB at this
        rw [hR] at this
        simp only [Bool.true_and, Bool.not_and, Bool.not_not, Bool.or_eq_true, List.contains_iff_mem] at this
        exact this
      · cases h
    · rename_i h2; exact absurd h h2
  · rename_i h1; exact absurd h h1
theorem CovOk.e {n m : Nat} {R : Int → Int → Bool} {F S : List Int} (h : CovOk n m R F S) : coverE n m R F S = 0 := by
  unfold coverE
  rw [if_pos h.f, if_pos h.s, if_pos]
  refine List.all_eq_true.2 fun i hi => List.all_eq_true.2 fun k hk => ?_
  rw [List.mem_range] at hi hk
  unfold openB
  cases hR : R i k
  · rfl
  · have := h.all i k (by omega) (by omega) (by omega) (by omega) hR
    simp only [Bool.true_and, Bool.not_and, Bool.not_not, Bool.or_eq_true, List.contains_iff_mem]
    exact this
/-- NO PAIRS ARE MORE THAN A COVER'S MEMBERS. -/
theorem weak_dual {n m : Nat} {R : Int → Int → Bool} {P : List (Int × Int)} {F S : List Int} (hP : PairsOk n m R P) (hC : CovOk n m R F S) : P.length ≤ F.length + S.length := by
  have hnd : P.Nodup := hP.apart.imp fun h e => by subst e; exact h.1 rfl
  have hp := List.pairwise_iff_getElem.1 hP.apart
  have same : ∀ p ∈ P, ∀ q ∈ P, p.1 = q.1 ∨ p.2 = q.2 → p = q := fun p hpm q hqm h => by
    obtain ⟨i, hi, rfl⟩ := List.getElem_of_mem hpm
    obtain ⟨k, hk, rfl⟩ := List.getElem_of_mem hqm
    rcases (by omega : i < k ∨ i = k ∨ k < i) with hlt | e | hlt
    · have := hp i k hi hk hlt
      rcases h with h | h
      · exact absurd h this.1
      · exact absurd h this.2
    · subst e; rfl
    · have := hp k i hk hi hlt
      rcases h with h | h
      · exact absurd h.symm this.1
      · exact absurd h.symm this.2
  have := nodup_of_pick (fun (p : Int × Int) (b : Bool × Int) => if b.1 then p.1 = b.2 else p.2 = b.2) (A := P) (B := F.map (fun x => (true, x)) ++ S.map (fun x => (false, x))) hnd (fun p hpm => by
    obtain ⟨a, b, c⟩ := hP.one p hpm
    rcases hC.all p.1 p.2 a.1 a.2 b.1 b.2 c with h | h
    · exact ⟨(true, p.1), List.mem_append.2 (.inl (List.mem_map_of_mem h)), by simp⟩
    · exact ⟨(false, p.2), List.mem_append.2 (.inr (List.mem_map_of_mem h)), by simp⟩) (fun p hpm q hqm b _ h1 h2 => by
    obtain ⟨b1, b2⟩ := b
    cases b1
    · simp at h1 h2; exact same p hpm q hqm (.inr (h1.trans h2.symm))
    · simp at h1 h2; exact same p hpm q hqm (.inl (h1.trans h2.symm)))
  simpa using this
end Go.Proofs.YtidgeagpgllkeaaGreat

namespace Go.Proofs.YtidgeagpgllkeaaGreat
open Go.RowKit

theorem MaM.ne0b {V W : World} {q p0 p1 n0 n1 : Nat} {a0 a1 : Value} {slack : Int} {F0 F1 : List Int} (h : MaM V q p0 p1 a0 a1 n0 n1 slack F0 F1 W) {z : Nat} {t : TypeId} {cs : Array Value} (b : Blk W z t cs) (ht : 3 ≠ t) : z ≠ p0 := fun e => own_blk_ne h.r0.own b ht (by rw [e]; rfl)
theorem MaM.ne1b {V W : World} {q p0 p1 n0 n1 : Nat} {a0 a1 : Value} {slack : Int} {F0 F1 : List Int} (h : MaM V q p0 p1 a0 a1 n0 n1 slack F0 F1 W) {z : Nat} {t : TypeId} {cs : Array Value} (b : Blk W z t cs) (ht : 3 ≠ t) : z ≠ p1 := fun e => own_blk_ne h.r1.own b ht (by rw [e]; rfl)

set_option maxRecDepth 100000 in
set_option maxHeartbeats 4000000 in
/-- Two marks become partners (region 13). -/
theorem pairReg13 {V W : World} {q p0 p1 z n0 n1 i k : Nat} {a0 a1 : Value} {slack f0 f1 : Int} {F0 F1 : List Int} (M : MaM V q p0 p1 a0 a1 n0 n1 slack F0 F1 W) (b : Blk W z 25 #[.int .i64 i, .int .i64 k]) (hi : i < n0) (hk : k < n1) (hf0 : F0[i]? = some f0) (hf1 : F1[k]? = some f1) {t0 t1 t2 t3 t4 t5 t6 t7 t9 t10 t12 t13 t14 t15 t16 t17 t18 t19 t20 t21 t22 t23 t24 t25 t26 t27 t28 t29 t30 t31 t32 t33 t34 t35 t36 t37 t38 t39 t40 t41 t42 t43 t44 t45 t46 t47 t48 t49 t50 t51 t52 t53 t54 t55 t56 t57 t58 t59 t60 t61 t62 t63 t64 t65 t66 t67 t68 t69 t70 t71 t72 t73 t74 t75 t76 t77 t78 t79 t80 t81 t82 t83 t84 t85 t86 t87 t88 t89 t90 t91 t92 t93 t94 t95 t96 t97 t98 t99 t100 t101 t102 t103 t104 t105 t106 t107 : Value} {ds : List Deferred} (Q : Exit → Act → World → Prop)
    (h : ∀ (t85 t86 t87 t88 t89 t90 t91 t92 t93 t94 t95 t96 t97 t98 t99 t100 t101 t102 t103 t104 : Value) (w' : World), MaM V q p0 p1 a0 a1 n0 n1 slack (F0.set i k) (F1.set k i) w' → Blk w' z 25 #[.int .i64 i, .int .i64 k] → Q .normal ⟨#[t0, t1, t2, t3, t4, t5, t6, t7, .pointer (some ⟨q, 0, none⟩), t9, t10, .pointer (some ⟨z, 0, none⟩), t12, t13, t14, t15, t16, t17, t18, t19, t20, t21, t22, t23, t24, t25, t26, t27, t28, t29, t30, t31, t32, t33, t34, t35, t36, t37, t38, t39, t40, t41, t42, t43, t44, t45, t46, t47, t48, t49, t50, t51, t52, t53, t54, t55, t56, t57, t58, t59, t60, t61, t62, t63, t64, t65, t66, t67, t68, t69, t70, t71, t72, t73, t74, t75, t76, t77, t78, t79, t80, t81, t82, t83, t84, t85, t86, t87, t88, t89, t90, t91, t92, t93, t94, t95, t96, t97, t98, t99, t100, t101, t102, t103, t104, t105, t106, t107], ds⟩ w') :
    (regOf Tryz.f74 13).wp Tryz.prog Q ⟨#[t0, t1, t2, t3, t4, t5, t6, t7, .pointer (some ⟨q, 0, none⟩), t9, t10, .pointer (some ⟨z, 0, none⟩), t12, t13, t14, t15, t16, t17, t18, t19, t20, t21, t22, t23, t24, t25, t26, t27, t28, t29, t30, t31, t32, t33, t34, t35, t36, t37, t38, t39, t40, t41, t42, t43, t44, t45, t46, t47, t48, t49, t50, t51, t52, t53, t54, t55, t56, t57, t58, t59, t60, t61, t62, t63, t64, t65, t66, t67, t68, t69, t70, t71, t72, t73, t74, t75, t76, t77, t78, t79, t80, t81, t82, t83, t84, t85, t86, t87, t88, t89, t90, t91, t92, t93, t94, t95, t96, t97, t98, t99, t100, t101, t102, t103, t104, t105, t106, t107], ds⟩ W := by
  have H := Lib.hid h; clear h
  have M := M.drew
  have b := b.drew
  have i1 : ((i : Int) < (n0 : Int)) := by omega
  have k1 : ((k : Int) < (n1 : Int)) := by omega
  conv in (regOf _ _) => whnf
  refine wp_region_w (fun w' => ∃ F0 F1, MaM V q p0 p1 a0 a1 n0 n1 slack F0 F1 w' ∧ Blk w' z 25 #[.int .i64 i, .int .i64 k]) (by kernel_rfl) (⟨F0, F1, M, b⟩) ?_
  refine wpW_det (t' := ?ct0R1) 0 (by rfl) (by kernel_rfl) (NQ_free _) (by kernel_rfl) ?cw0R1 ?ch0R1 ?ca0R1 (Eq.refl _) ?cH0R1
  case cw0R1 => (go_simp; done)
  case ch0R1 =>
    intro ds w' hS K hK
    obtain ⟨G0, G1, MS, bS⟩ := id hS
    obtain ⟨z0, z1, z2, z3, z4, zf⟩ := blk5c MS.box
    obtain ⟨d0, d1, df⟩ := blk2c bS
    have lq := MS.box.lt
    have lz := bS.lt
    go_simp
    try go_bits
    exact hK _ hS (Gr.refl _)
  case ca0R1 => (first | (simp [Act.put]; done) | (simp [Act.put, *]; done))
  try dsimp only
  refine wpW_det (t' := ?ct1R1) 1 (by rfl) (by kernel_rfl) (NQ_free _) (by kernel_rfl) ?cw1R1 ?ch1R1 ?ca1R1 (Eq.refl _) ?cH1R1
  case cw1R1 => (go_simp; done)
  case ch1R1 =>
    intro ds w' hS K hK
    obtain ⟨G0, G1, MS, bS⟩ := id hS
    obtain ⟨z0, z1, z2, z3, z4, zf⟩ := blk5c MS.box
    obtain ⟨d0, d1, df⟩ := blk2c bS
    have lq := MS.box.lt
    have lz := bS.lt
    go_simp
    try go_bits
    exact hK _ hS (Gr.refl _)
  case ca1R1 => (first | (simp [Act.put]; done) | (simp [Act.put, *]; done))
  try dsimp only
  refine wpW_det (t' := ?ct2R1) 2 (by rfl) (by kernel_rfl) (NQ_free _) (by kernel_rfl) ?cw2R1 ?ch2R1 ?ca2R1 (Eq.refl _) ?cH2R1
  case cw2R1 => (go_simp; done)
  case ch2R1 =>
    intro ds w' hS K hK
    obtain ⟨G0, G1, MS, bS⟩ := id hS
    obtain ⟨z0, z1, z2, z3, z4, zf⟩ := blk5c MS.box
    obtain ⟨d0, d1, df⟩ := blk2c bS
    have lq := MS.box.lt
    have lz := bS.lt
    go_simp
    try go_bits
    exact hK _ hS (Gr.refl _)
  case ca2R1 => (first | (simp [Act.put]; done) | (simp [Act.put, *]; done))
  try dsimp only
  refine wpW_det (t' := ?ct3R1) 3 (by rfl) (by kernel_rfl) (NQ_free _) (by kernel_rfl) ?cw3R1 ?ch3R1 ?ca3R1 (Eq.refl _) ?cH3R1
  case cw3R1 => (go_simp; done)
  case ch3R1 =>
    intro ds w' hS K hK
    obtain ⟨G0, G1, MS, bS⟩ := id hS
    obtain ⟨z0, z1, z2, z3, z4, zf⟩ := blk5c MS.box
    obtain ⟨d0, d1, df⟩ := blk2c bS
    have lq := MS.box.lt
    have lz := bS.lt
    go_simp
    try go_bits
    exact hK _ hS (Gr.refl _)
  case ca3R1 => (first | (simp [Act.put]; done) | (simp [Act.put, *]; done))
  try dsimp only
  refine wpW_det (t' := ?ct4R1) 4 (by rfl) (by kernel_rfl) (NQ_free _) (by kernel_rfl) ?cw4R1 ?ch4R1 ?ca4R1 (Eq.refl _) ?cH4R1
  case cw4R1 => (go_simp; done)
  case ch4R1 =>
    intro ds w' hS K hK
    obtain ⟨G0, G1, MS, bS⟩ := id hS
    obtain ⟨z0, z1, z2, z3, z4, zf⟩ := blk5c MS.box
    obtain ⟨d0, d1, df⟩ := blk2c bS
    have lq := MS.box.lt
    have lz := bS.lt
    go_simp
    try go_bits
    exact hK _ hS (Gr.refl _)
  case ca4R1 => (first | (simp [Act.put]; done) | (simp [Act.put, *]; done))
  try dsimp only
  refine wpW_det (t' := ?ct5R1) 5 (by rfl) (by kernel_rfl) (NQ_free _) (by kernel_rfl) ?cw5R1 ?ch5R1 ?ca5R1 (Eq.refl _) ?cH5R1
  case cw5R1 => (go_simp; done)
  case ch5R1 =>
    intro ds w' hS K hK
    obtain ⟨G0, G1, MS, bS⟩ := id hS
    obtain ⟨z0, z1, z2, z3, z4, zf⟩ := blk5c MS.box
    obtain ⟨d0, d1, df⟩ := blk2c bS
    have lq := MS.box.lt
    have lz := bS.lt
    go_simp
    try go_bits
    exact hK _ hS (Gr.refl _)
  case ca5R1 => (first | (simp [Act.put]; done) | (simp [Act.put, *]; done))
  try dsimp only
  refine wpW_det (t' := ?ct6R1) 6 (by rfl) (by kernel_rfl) (NQ_free _) (by kernel_rfl) ?cw6R1 ?ch6R1 ?ca6R1 (Eq.refl _) ?cH6R1
  case cw6R1 => (go_simp; done)
  case ch6R1 =>
    intro ds w' hS K hK
    obtain ⟨G0, G1, MS, bS⟩ := id hS
    obtain ⟨z0, z1, z2, z3, z4, zf⟩ := blk5c MS.box
    obtain ⟨d0, d1, df⟩ := blk2c bS
    have lq := MS.box.lt
    have lz := bS.lt
    go_simp
    try go_bits
    exact hK _ hS (Gr.refl _)
  case ca6R1 => (first | (simp [Act.put]; done) | (simp [Act.put, *]; done))
  try dsimp only
  refine wpW_det (t' := ?ct7R1) 7 (by rfl) (by kernel_rfl) (NQ_free _) (by kernel_rfl) ?cw7R1 ?ch7R1 ?ca7R1 (Eq.refl _) ?cH7R1
  case cw7R1 => (go_simp; done)
  case ch7R1 =>
    intro ds w' hS K hK
    obtain ⟨G0, G1, MS, bS⟩ := id hS
    obtain ⟨z0, z1, z2, z3, z4, zf⟩ := blk5c MS.box
    obtain ⟨d0, d1, df⟩ := blk2c bS
    have lq := MS.box.lt
    have lz := bS.lt
    go_simp
    try go_bits
    exact hK _ hS (Gr.refl _)
  case ca7R1 => (first | (simp [Act.put]; done) | (simp [Act.put, *]; done))
  try dsimp only
  refine wpW_det (t' := ?ct8R1) 8 (by rfl) (by kernel_rfl) (NQ_free _) (by kernel_rfl) ?cw8R1 ?ch8R1 ?ca8R1 (Eq.refl _) ?cH8R1
  case cw8R1 => (go_simp; done)
  case ch8R1 =>
    intro ds w' hS K hK
    obtain ⟨G0, G1, MS, bS⟩ := id hS
    obtain ⟨z0, z1, z2, z3, z4, zf⟩ := blk5c MS.box
    obtain ⟨d0, d1, df⟩ := blk2c bS
    have lq := MS.box.lt
    have lz := bS.lt
    go_simp
    try go_bits
    exact hK _ hS (Gr.refl _)
  case ca8R1 => (first | (simp [Act.put]; done) | (simp [Act.put, *]; done))
  try dsimp only
  refine wpW_det (t' := ?ct9R1) 9 (by rfl) (by kernel_rfl) (NQ_free _) (by kernel_rfl) ?cw9R1 ?ch9R1 ?ca9R1 (Eq.refl _) ?cH9R1
  case cw9R1 => (go_simp; done)
  case ch9R1 =>
    intro ds w' hS K hK
    obtain ⟨G0, G1, MS, bS⟩ := id hS
    obtain ⟨z0, z1, z2, z3, z4, zf⟩ := blk5c MS.box
    obtain ⟨d0, d1, df⟩ := blk2c bS
    have lq := MS.box.lt
    have lz := bS.lt
    go_simp
    try go_bits
    exact hK _ hS (Gr.refl _)
  case ca9R1 => (first | (simp [Act.put]; done) | (simp [Act.put, *]; done))
  try dsimp only
  refine wpW_det (t' := ?ct10R1) 10 (by rfl) (by kernel_rfl) (NQ_free _) (by kernel_rfl) ?cw10R1 ?ch10R1 ?ca10R1 (Eq.refl _) ?cH10R1
  case cw10R1 => (go_simp; done)
  case ch10R1 =>
    intro ds w' hS K hK
    obtain ⟨G0, G1, MS, bS⟩ := id hS
    obtain ⟨z0, z1, z2, z3, z4, zf⟩ := blk5c MS.box
    obtain ⟨d0, d1, df⟩ := blk2c bS
    have lq := MS.box.lt
    have lz := bS.lt
    go_simp
    try go_bits
    exact hK _ hS (Gr.refl _)
  case ca10R1 => (first | (simp [Act.put]; done) | (simp [Act.put, *]; done))
  try dsimp only
  refine wpW_det (t' := ?ct11R1) 11 (by rfl) (by kernel_rfl) (NQ_free _) (by kernel_rfl) ?cw11R1 ?ch11R1 ?ca11R1 (Eq.refl _) ?cH11R1
  case cw11R1 => (go_simp; done)
  case ch11R1 =>
    intro ds w' hS K hK
    obtain ⟨G0, G1, MS, bS⟩ := id hS
    obtain ⟨z0, z1, z2, z3, z4, zf⟩ := blk5c MS.box
    obtain ⟨d0, d1, df⟩ := blk2c bS
    have lq := MS.box.lt
    have lz := bS.lt
    go_simp
    try go_bits
    exact hK _ hS (Gr.refl _)
  case ca11R1 => (first | (simp [Act.put]; done) | (simp [Act.put, *]; done))
  try dsimp only
  refine wpW_det (t' := ?ct12R1) 12 (by rfl) (by kernel_rfl) (NQ_free _) (by kernel_rfl) ?cw12R1 ?ch12R1 ?ca12R1 (Eq.refl _) ?cH12R1
  case cw12R1 => (go_simp; done)
  case ch12R1 =>
    intro ds w' hS K hK
    obtain ⟨G0, G1, MS, bS⟩ := id hS
    obtain ⟨z0, z1, z2, z3, z4, zf⟩ := blk5c MS.box
    obtain ⟨d0, d1, df⟩ := blk2c bS
    have lq := MS.box.lt
    have lz := bS.lt
    go_simp
    try go_bits
    exact hK _ hS (Gr.refl _)
  case ca12R1 => (first | (simp [Act.put]; done) | (simp [Act.put, *]; done))
  try dsimp only
  refine wpW_det (t' := ?ct13R1) 13 (by rfl) (by kernel_rfl) (NQ_free _) (by kernel_rfl) ?cw13R1 ?ch13R1 ?ca13R1 (Eq.refl _) ?cH13R1
  case cw13R1 => (go_simp; done)
  case ch13R1 =>
    intro ds w' hS K hK
    obtain ⟨G0, G1, MS, bS⟩ := id hS
    obtain ⟨z0, z1, z2, z3, z4, zf⟩ := blk5c MS.box
    obtain ⟨d0, d1, df⟩ := blk2c bS
    have lq := MS.box.lt
    have lz := bS.lt
    go_simp
    try go_bits
    exact hK _ hS (Gr.refl _)
  case ca13R1 => (first | (simp [Act.put]; done) | (simp [Act.put, *]; done))
  try dsimp only
  refine wpW_det (t' := ?ct14R1) 14 (by rfl) (by kernel_rfl) (NQ_free _) (by kernel_rfl) ?cw14R1 ?ch14R1 ?ca14R1 (Eq.refl _) ?cH14R1
  case cw14R1 => (go_simp; done)
  case ch14R1 =>
    intro ds w' hS K hK
    obtain ⟨G0, G1, MS, bS⟩ := id hS
    obtain ⟨z0, z1, z2, z3, z4, zf⟩ := blk5c MS.box
    obtain ⟨d0, d1, df⟩ := blk2c bS
    have lq := MS.box.lt
    have lz := bS.lt
    go_simp
    try go_bits
    exact hK _ hS (Gr.refl _)
  case ca14R1 => (first | (simp [Act.put]; done) | (simp [Act.put, *]; done))
  try dsimp only
  refine wpW_det (t' := ?ct15R1) 15 (by rfl) (by kernel_rfl) (NQ_free _) (by kernel_rfl) ?cw15R1 ?ch15R1 ?ca15R1 (Eq.refl _) ?cH15R1
  case cw15R1 => (go_simp; done)
  case ch15R1 =>
    intro ds w' hS K hK
    obtain ⟨G0, G1, MS, bS⟩ := id hS
    obtain ⟨z0, z1, z2, z3, z4, zf⟩ := blk5c MS.box
    obtain ⟨d0, d1, df⟩ := blk2c bS
    have lq := MS.box.lt
    have lz := bS.lt
    go_simp
    try go_bits
    exact hK _ hS (Gr.refl _)
  case ca15R1 => (first | (simp [Act.put]; done) | (simp [Act.put, *]; done))
  try dsimp only
  refine wpW_det (t' := ?ct16R1) 16 (by rfl) (by kernel_rfl) (NQ_free _) (by kernel_rfl) ?cw16R1 ?ch16R1 ?ca16R1 (Eq.refl _) ?cH16R1
  case cw16R1 => (go_simp; done)
  case ch16R1 =>
    intro ds w' hS K hK
    obtain ⟨G0, G1, MS, bS⟩ := id hS
    obtain ⟨z0, z1, z2, z3, z4, zf⟩ := blk5c MS.box
    obtain ⟨d0, d1, df⟩ := blk2c bS
    have lq := MS.box.lt
    have lz := bS.lt
    go_simp
    try go_bits
    exact hK _ hS (Gr.refl _)
  case ca16R1 => (first | (simp [Act.put]; done) | (simp [Act.put, *]; done))
  try dsimp only
  refine wpW_det (t' := ?ct17R1) 17 (by rfl) (by kernel_rfl) (NQ_free _) (by kernel_rfl) ?cw17R1 ?ch17R1 ?ca17R1 (Eq.refl _) ?cH17R1
  case cw17R1 => (go_simp; done)
  case ch17R1 =>
    intro ds w' hS K hK
    obtain ⟨G0, G1, MS, bS⟩ := id hS
    obtain ⟨z0, z1, z2, z3, z4, zf⟩ := blk5c MS.box
    obtain ⟨d0, d1, df⟩ := blk2c bS
    have lq := MS.box.lt
    have lz := bS.lt
    go_simp
    try go_bits
    exact hK _ hS (Gr.refl _)
  case ca17R1 => (first | (simp [Act.put]; done) | (simp [Act.put, *]; done))
  try dsimp only
  refine wpW_branch [18] (by kernel_rfl) (by simp) ?_
  intro w1 hg1 hS1
  have M := MaM.gr M hg1
  have b := b.gr hg1
  try have u0 := M.r0.cell hf0
  try have u1 := M.r1.cell hf1
  have uf0 := M.r0.frozen i
  have uf1 := M.r1.frozen k
  refine each_cons ?_ (each_nil)
  · refine wpOp_go (by rfl) (Eq.refl _) (by go_simp; done) ?_
    intro K hK
    go_simp
    try simp only [Act.put]
    refine hK _ _ ⟨_, _, M, b⟩ ?_
    clear hK K
    refine wpW_branch [19] (by kernel_rfl) (by simp) ?_
    intro w2 hg2 hS2
    have M := MaM.gr M hg2
    have b := b.gr hg2
    try have u0 := M.r0.cell hf0
    try have u1 := M.r1.cell hf1
    have uf0 := M.r0.frozen i
    have uf1 := M.r1.frozen k
    refine each_cons ?_ (each_nil)
    · refine wpOp_go (by rfl) (Eq.refl _) (by go_simp; done) ?_
      intro K hK
      go_simp
      try simp only [Act.put]
      have b := b.far (p := ⟨p0, i, none⟩) (MaM.ne0b M b (by decide)) (.int .i64 k)
      have M := M.put0 i k
      refine hK _ _ ⟨_, _, M, b⟩ ?_
      clear hK K u0 uf0 uf1 hf0
      try clear u1
      refine wpW_branch [20] (by kernel_rfl) (by simp) ?_
      intro w3 hg3 hS3
      have M := MaM.gr M hg3
      have b := b.gr hg3
      try have u0 := M.r0.cell hf0
      try have u1 := M.r1.cell hf1
      have uf0 := M.r0.frozen i
      have uf1 := M.r1.frozen k
      refine each_cons ?_ (each_nil)
      · refine wpOp_go (by rfl) (Eq.refl _) (by go_simp; done) ?_
        intro K hK
        go_simp
        try simp only [Act.put]
        refine hK _ _ ⟨_, _, M, b⟩ ?_
        clear hK K
        refine wpW_branch [21] (by kernel_rfl) (by simp) ?_
        intro w4 hg4 hS4
        have M := MaM.gr M hg4
        have b := b.gr hg4
        try have u0 := M.r0.cell hf0
        try have u1 := M.r1.cell hf1
        have uf0 := M.r0.frozen i
        have uf1 := M.r1.frozen k
        refine each_cons ?_ (each_nil)
        · refine wpOp_go (by rfl) (Eq.refl _) (by go_simp; done) ?_
          intro K hK
          go_simp
          try simp only [Act.put]
          have b := b.far (p := ⟨p1, k, none⟩) (MaM.ne1b M b (by decide)) (.int .i64 i)
          have M := M.put1 k i
          refine hK _ _ ⟨_, _, M, b⟩ ?_
          clear hK K u1 uf0 uf1 hf1
          refine wpW_end (by kernel_rfl) ?_
          intro we hg hS
          unfold NQ
          dsimp only
          exact H.out _ _ _ _ _ _ _ _ _ _ _ _ _ _ _ _ _ _ _ _ we (MaM.gr M hg) (b.gr hg)
end Go.Proofs.YtidgeagpgllkeaaGreat
