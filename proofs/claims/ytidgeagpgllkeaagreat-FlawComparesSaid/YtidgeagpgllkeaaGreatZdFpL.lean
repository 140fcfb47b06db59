/- Plain law: the amplitudes of scans told in another order, twice, or cut. Plain law: the areas of an ask are unique; the labels of the reference give them. Plain laws: areas of a greater level lie in areas of a lesser one; the areas have each cell once. Contracts: equal lists of cells, equal areas; the reference's neighbours. Contract: whether all cells of an area are in another one. Scans told in another order, and cut: what lies in memory; regions of the law FlawAnyOrder. The loop of the law FlawAnyOrder. Contract: the reference's check of pairs. -/
import Derived.Test.YtidgeagpgllkeaaGreatZdFgC
import Derived.Test.YtidgeagpgllkeaaGreatZdFaZf
import Derived.Test.YtidgeagpgllkeaaGreatZdFiB
import Derived.Test.YtidgeagpgllkeaaGreatZdFkA
import Derived.Test.YtidgeagpgllkeaaGreatZdFcP
import Derived.Test.YtidgeagpgllkeaaGreatZdFeB
import Derived.Test.YtidgeagpgllkeaaGreatZdFpM
namespace Go.Proofs.YtidgeagpgllkeaaGreat

theorem atV_le (l : List Sc) (r c m : Int) : atV l r c ≤ m ↔ -1 ≤ m ∧ ∀ s ∈ l, inB s r c = true → datV s r c ≤ m := by
  have key : ∀ (l : List Sc) (b : Int), l.foldl (fun b s => atS b s r c) b ≤ m ↔ b ≤ m ∧ ∀ s ∈ l, inB s r c = true → datV s r c ≤ m := by
    intro l
    induction l with
    | nil => intro b; simp
    | cons s l ih =>
      intro b
      rw [List.foldl_cons, ih]
      unfold atS
      by_cases hi : inB s r c = true
      · rw [if_pos hi]
        constructor
        · rintro ⟨h1, h2⟩
          refine ⟨by omega, fun t ht hti => ?_⟩
          rcases List.mem_cons.1 ht with rfl | ht
          · omega
          · exact h2 t ht hti
        · rintro ⟨h1, h2⟩
          have := h2 s (by simp) hi
          exact ⟨by omega, fun t ht hti => h2 t (List.mem_cons_of_mem _ ht) hti⟩
      · rw [if_neg hi]
        constructor
        · rintro ⟨h1, h2⟩
          refine ⟨h1, fun t ht hti => ?_⟩
          rcases List.mem_cons.1 ht with rfl | ht
          · exact absurd hti hi
          · exact h2 t ht hti
        · rintro ⟨h1, h2⟩
          exact ⟨h1, fun t ht hti => h2 t (List.mem_cons_of_mem _ ht) hti⟩
  exact key l (-1)
end Go.Proofs.YtidgeagpgllkeaaGreat

namespace Go.Proofs.YtidgeagpgllkeaaGreat
open Classical

theorem bef_iff (x y : Int × Int) : befB x y = true ↔ x.1 < y.1 ∨ (x.1 = y.1 ∧ x.2 < y.2) := by unfold befB; simp
theorem bef_asy (x y : Int × Int) (h : befB x y = true) : ¬ befB y x = true := by rw [bef_iff] at *; omega
/-- The known cells of a level, ascending. -/
structure Pls (g : Int → Int → Int) (level : Int) (P : List (Int × Int)) : Prop where
  asc : P.Pairwise fun x y => befB x y = true
  mem : ∀ x, x ∈ P ↔ abv g x.1 x.2 level = true
theorem Pls.eq {g : Int → Int → Int} {level : Int} {P Q : List (Int × Int)} (h : Pls g level P) (h' : Pls g level Q) : P = Q :=
  eq_of_mem bef_asy h.asc h'.asc fun x => (h.mem x).trans (h'.mem x).symm
theorem Pls.inj {g : Int → Int → Int} {level : Int} {P : List (Int × Int)} (h : Pls g level P) {i k : Nat} {p : Int × Int} (hi : P[i]? = some p) (hk : P[k]? = some p) : i = k := by
  obtain ⟨h1, e1⟩ := List.getElem?_eq_some_iff.1 hi
  obtain ⟨h2, e2⟩ := List.getElem?_eq_some_iff.1 hk
  rcases (by omega : i < k ∨ i = k ∨ k < i) with hlt | e | hlt
  · have := List.pairwise_iff_getElem.1 h.asc i k h1 h2 hlt
    rw [e1, e2] at this
    exact absurd this (bef_asy _ _ this)
  · exact e
  · have := List.pairwise_iff_getElem.1 h.asc k i h2 h1 hlt
    rw [e1, e2] at this
    exact absurd this (bef_asy _ _ this)

/-! ### the reference's labels -/
/-- The cells with a label, of the first m. -/
def cellsOf (P : List (Int × Int)) (F : List Int) (j m : Nat) : List (Int × Int) := (((F.zip P).take m).filter fun z => decide (z.1 = (j : Int))).map (·.2)
end Go.Proofs.YtidgeagpgllkeaaGreat

namespace Go.Proofs.YtidgeagpgllkeaaGreat

theorem nbB_corners {corners : Bool} {p q : Int × Int} (h : nbB corners p q = true) : nbB true p q = true := by
  unfold nbB keepB at *
  cases corners
  · simp only [Bool.and_eq_true] at *
    refine ⟨h.1, h.2.1, ?_⟩
    simp
  · exact h
theorem abv_low {g : Int → Int → Int} {r c level level' : Int} (hl : level ≤ level') (h : abv g r c level' = true) : abv g r c level = true := by
  rw [abv_iff] at *; omega
theorem Conn.low {g : Int → Int → Int} {level level' : Int} {corners : Bool} {p x : Int × Int} (hl : level ≤ level') (h : Conn g level' corners p x) : Conn g level true p x := by
  induction h with
  | refl => exact .refl
  | step _ hm ha ih => exact .step ih (mem_nb9.2 (nbB_corners (mem_nb9.1 hm))) (abv_low hl ha)
theorem ArS.start_in {g : Int → Int → Int} {level : Int} {corners : Bool} {P : List (Int × Int)} {Bs : List ((Int × Int) × ArA)} (h : ArS g level corners P P.length Bs) : ∀ q ∈ Bs, q.1 ∈ P := fun q hq => by
  have := h.sub
  rw [List.take_length] at this
  exact this.subset (List.mem_map_of_mem hq)
theorem ArS.flat {g : Int → Int → Int} {level : Int} {corners : Bool} {P : List (Int × Int)} {Bs : List ((Int × Int) × ArA)} (hP : Pls g level P) (h : ArS g level corners P P.length Bs) : (Bs.map fun q => q.2.2).flatten.Nodup ∧ ∀ x, x ∈ (Bs.map fun q => q.2.2).flatten ↔ x ∈ P := by
  constructor
  · unfold List.Nodup
    rw [List.pairwise_flatten]
    refine ⟨fun l hl => ?_, ?_⟩
    · obtain ⟨q, hq, rfl⟩ := List.mem_map.1 hl
      exact (h.each q hq).nodup
    · rw [List.pairwise_map]
      refine h.apart.imp_of_mem ?_
      intro a b ha hb hab x hx y hy e
      subst e
      refine hab (((h.each a ha).mem _).2 (((h.each a ha).mem x).1 hx |>.trans ?_))
      exact Conn.symm ((hP.mem _).1 (h.start_in b hb)) (((h.each b hb).mem x).1 hy)
  · intro x
    rw [List.mem_flatten]
    constructor
    · rintro ⟨l, hl, hx⟩
      obtain ⟨q, hq, rfl⟩ := List.mem_map.1 hl
      exact (hP.mem x).2 (Conn.abv ((hP.mem _).1 (h.start_in q hq)) (((h.each q hq).mem x).1 hx))
    · intro hx
      obtain ⟨q, hq, hm⟩ := h.cover x (by rw [List.take_length]; exact hx)
      exact ⟨_, List.mem_map_of_mem hq, hm⟩
theorem Pls.nodup {g : Int → Int → Int} {level : Int} {P : List (Int × Int)} (h : Pls g level P) : P.Nodup :=
  h.asc.imp (fun hb e => by subst e; exact bef_asy _ _ hb hb)
theorem ArS.sum {g : Int → Int → Int} {level : Int} {corners : Bool} {P : List (Int × Int)} {Bs : List ((Int × Int) × ArA)} (hP : Pls g level P) (h : ArS g level corners P P.length Bs) : (Bs.map fun q => q.2.2.length).sum = P.length := by
  obtain ⟨h1, h2⟩ := h.flat hP
  have a := nodup_len _ P h1 fun x hx => (h2 x).1 hx
  have b := nodup_len P _ hP.nodup fun x hx => (h2 x).2 hx
  rw [List.length_flatten, List.map_map] at a b
  exact Nat.le_antisymm a b
theorem AreaOk.pos {g : Int → Int → Int} {level : Int} {corners : Bool} {p : Int × Int} {cs : List (Int × Int)} (h : AreaOk g level corners p cs) : 0 < cs.length := List.length_pos_of_mem ((h.mem p).2 .refl)
end Go.Proofs.YtidgeagpgllkeaaGreat

namespace Go.Proofs.YtidgeagpgllkeaaGreat
open Go.RowKit

end Go.Proofs.YtidgeagpgllkeaaGreat

namespace Go.Proofs.YtidgeagpgllkeaaGreat
open Go.RowKit

theorem known_in {l : List Sc} {r c : Int} (h : 0 ≤ atV l r c) : ∃ s ∈ l, inB s r c = true := by
  refine Classical.byContradiction fun hn => ?_
  have := (atV_le l r c (-1)).2 ⟨Int.le_refl _, fun s hs hi => absurd ⟨s, hs, hi⟩ hn⟩
  omega
def allC (l : List Sc) : List (Int × Int) := l.flatMap fun s => (List.range 24).flatMap fun (r : Nat) => (List.range 24).map fun (c : Nat) => (s.row + (r : Int), s.col + (c : Int))
theorem allC_len (l : List Sc) : (allC l).length = l.length * 576 := by
  induction l with
  | nil => rfl
  | cons s l ih =>
    unfold allC at *
    rw [List.flatMap_cons, List.length_append, ih]
    have : ((List.range 24).flatMap fun (r : Nat) => (List.range 24).map fun (c : Nat) => (s.row + (r : Int), s.col + (c : Int))).length = 576 := by
      rw [List.length_flatMap]
      simp only [List.length_map, List.length_range]
      rfl
    rw [this, List.length_cons]; omega
theorem Pls.short {l : List Sc} {level : Int} {P : List (Int × Int)} (h : Pls (atV l) level P) (hg : ∀ s ∈ l, ScGood s) (hn : l.length ≤ 6) : P.length ≤ 3456 := by
  have := nodup_len P (allC l) h.nodup fun x hx => by
    obtain ⟨s, hs, hi⟩ := known_in ((abv_iff _ _ _ _).1 ((h.mem x).1 hx)).1
    have g1 := (hg s hs).rows
    have g2 := (hg s hs).cols
    simp [inB, wi] at hi
    unfold allC
    refine List.mem_flatMap.2 ⟨s, hs, List.mem_flatMap.2 ⟨(x.1 - s.row).toNat, List.mem_range.2 (by omega), List.mem_map.2 ⟨(x.2 - s.col).toNat, List.mem_range.2 (by omega), ?_⟩⟩⟩
    exact Prod.ext (by dsimp only; omega) (by dsimp only; omega)
  rw [allC_len] at this
  omega

end Go.Proofs.YtidgeagpgllkeaaGreat

namespace Go.Proofs.YtidgeagpgllkeaaGreat
open Go.RowKit

theorem own_two' {w : World} {b1 b2 e1 e2 s1 s2 n1 n2 : Nat} {v1 v2 : Value} {xs1 xs2 : List Value} (h1 : w.ownsRow b1 e1 s1 v1 n1 xs1) (h2 : w.ownsRow b2 e2 s2 v2 n2 xs2) (hne : e1 ≠ e2) : v1.ownBlock = none ∨ v1.ownBlock ≠ v2.ownBlock := by
  rcases h1.2 with ⟨rfl, _⟩ | ⟨g, cap, cur, rfl, _, hh, _⟩
  · exact .inl rfl
  · right
    rcases h2.2 with ⟨rfl, _⟩ | ⟨g', cap', cur', rfl, _, hh', _⟩
    · simp [Value.ownBlock]
    · intro e
      have e' : g = g' := by simpa [Value.ownBlock] using e
      subst e'
      rw [hh] at hh'
      injection hh' with hh'
      injection hh' with _ ht
      exact hne ht
theorem wp_append_at {P : Program} (w : World) {o : Oper} {a : Act} {K : Act → World → Prop} {Q : Exit → Act → World → Prop} (s x : Operand) (t : TypeId)
    (ho : o.op = .call { callee := .builtin .append, args := #[s, x], argTypes := #[t, t] })
    (base : Nat) (e : TypeId) (i : TypeInfo) (z : Value) (size bytes : Nat) (ht : P.underlying t = some (.slice e)) (hi : P.info? e = some i) (hz : i.zero = some z)
    (hsize : i.size = size) (hby : i.bytes = bytes) (hzs : z.cells.size = size) (hsz : 0 < size)
    (v : Value) (n : Nat) (xs : List Value) (hs : a.eval s = v) (hown : w.ownsRow base e size v n xs)
    (ad : Addr) (m c : Nat) (news : List Value) (hx : a.eval x = .slice (some ad) m c) (hl : news.length = m * size) (hnews : ∀ j u, news[j]? = some u → w.cell? (ad.add j) = some u) (h1 : ∀ u ∈ news, u.oneCell' = true)
    (h63 : n + m ≤ maxLen) (hbytes : (n + m) * bytes ≤ 140737488355328) (hbase : base ≤ w.heap.size)
    (h : ∀ v' w', w'.ownsRow base e size v' (n + m) (xs ++ news) → w.grownBy w' v.ownBlock → (v'.ownBlock = v.ownBlock ∨ v'.ownBlock = some w.heap.size) → K (a.put o.dst v') w') : o.wp P a w K Q := by
  obtain ⟨v', w', hr, h2, h3, _, h5⟩ := run_append_own_at (P := P) w base t o.type e i z size bytes ht hi hz hsize hby hzs hsz v n xs hown ad m c news hl hnews h1 h63 hbytes hbase
  unfold Oper.wp execOp
  simp only [ho, resolve, invoke, builtin, Sem.run_bind, Sem.run_pure, Result.andThen_ok, List.map_toArray, List.map_cons, List.map_nil, hs, hx, hr]
  exact h v' w' h2 h3 h5

end Go.Proofs.YtidgeagpgllkeaaGreat

namespace Go.Proofs.YtidgeagpgllkeaaGreat
open Go.RowKit

end Go.Proofs.YtidgeagpgllkeaaGreat

namespace Go.Proofs.YtidgeagpgllkeaaGreat
open Go.RowKit

/-- Two rows of numbers of the call's own, in different blocks. -/
structure TwoI (w : World) (n : Nat) (vF vS : Value) (Fl Sl : List Int) (W : World) : Prop where
  f : W.ownsRow w.heap.size 3 1 vF n (intsC Fl)
  s : W.ownsRow w.heap.size 3 1 vS n (intsC Sl)
  ne : ∀ b, vF.ownBlock = some b → vS.ownBlock ≠ some b
  below : Below w.heap.size w W
theorem TwoI.gr {w W W' : World} {n : Nat} {vF vS : Value} {Fl Sl : List Int} (h : TwoI w n vF vS Fl Sl W) (g : Gr W W') : TwoI w n vF vS Fl Sl W' := ⟨own_below h.f g, own_below h.s g, h.ne, h.below.trans (Below.mono g (Below.size h.below))⟩
theorem TwoI.start (w : World) : TwoI w 0 (.slice none 0 0) (.slice none 0 0) [] [] w := ⟨World.ownsRow_nil _ _ _ _, World.ownsRow_nil _ _ _ _, fun b h => by simp [Value.ownBlock] at h, Below.refl _ _⟩
/-- A number put behind the first row. -/
theorem TwoI.addF {w W W' : World} {n n' : Nat} {vF vS v' : Value} {Fl Sl Fl' : List Int} (f : W.ownsRow w.heap.size 3 1 vF n (intsC Fl)) (s : W.ownsRow w.heap.size 3 1 vS n' (intsC Sl)) (ne : ∀ b, vF.ownBlock = some b → vS.ownBlock ≠ some b) (ho : W'.ownsRow w.heap.size 3 1 v' (n + 1) (intsC Fl')) (hg : W.grownBy W' vF.ownBlock) (hob : v'.ownBlock = vF.ownBlock ∨ v'.ownBlock = some W.heap.size) :
    W'.ownsRow w.heap.size 3 1 vS n' (intsC Sl) ∧ (∀ b, v'.ownBlock = some b → vS.ownBlock ≠ some b) := by
  refine ⟨s.kept hg ?_, fun b hb hs => ?_⟩
  · rcases hv : vS.ownBlock with _ | b
    · exact .inl rfl
    · exact .inr fun e => ne b e.symm hv
  · rcases hob with h | h
    · exact ne b (h.symm.trans hb) hs
    · have h1 := (s.lt b hs).2
      have h2 : some W.heap.size = some b := h.symm.trans hb
      have := Option.some.inj h2
      omega
theorem intsC_put (l : List Int) (x : Int) : intsC l ++ [.int .i64 x] = intsC (l ++ [x]) := by simp [intsC]

set_option maxRecDepth 100000 in
set_option maxHeartbeats 8000000 in
/-- Both numbers of a pair are put behind (region 12). -/
theorem rcpReg12 {w0 W : World} {z n : Nat} {vF vS : Value} {Fl Sl : List Int} {x y : Int} (M : TwoI w0 n vF vS Fl Sl W) (hn : n ≤ 1000) (b : Blk W z 25 #[.int .i64 x, .int .i64 y]) {t0 t1 t2 t3 t4 t5 t6 t7 t8 t9 t12 t14 t15 t16 t17 t18 t19 t20 t21 t22 t23 t24 t25 t26 t27 t28 t29 t30 t31 t32 t33 t34 t35 t36 t37 t38 t39 t40 t41 t42 t43 t44 t45 t46 t47 t48 t49 t50 t51 t52 t53 t54 t55 t56 t57 t58 t59 t60 t61 t62 t63 t64 t65 t66 t67 t68 t69 t70 t71 t72 t73 t74 : Value} {ds : List Deferred} (Q : Exit → Act → World → Prop)
    (h : ∀ (t63 t64 t65 t66 t67 t68 t69 t70 t71 t72 uF uS : Value) (w' : World), TwoI w0 (n + 1) uF uS (Fl ++ [x]) (Sl ++ [y]) w' → Q .normal ⟨#[t0, t1, t2, t3, t4, t5, t6, t7, t8, t9, uF, uS, t12, .pointer (some ⟨z, 0, none⟩), t14, t15, t16, t17, t18, t19, t20, t21, t22, t23, t24, t25, t26, t27, t28, t29, t30, t31, t32, t33, t34, t35, t36, t37, t38, t39, t40, t41, t42, t43, t44, t45, t46, t47, t48, t49, t50, t51, t52, t53, t54, t55, t56, t57, t58, t59, t60, t61, t62, t63, t64, t65, t66, t67, t68, t69, t70, t71, t72, t73, t74], ds⟩ w') :
    (regOf Tryz.f77 12).wp Tryz.prog Q ⟨#[t0, t1, t2, t3, t4, t5, t6, t7, t8, t9, vF, vS, t12, .pointer (some ⟨z, 0, none⟩), t14, t15, t16, t17, t18, t19, t20, t21, t22, t23, t24, t25, t26, t27, t28, t29, t30, t31, t32, t33, t34, t35, t36, t37, t38, t39, t40, t41, t42, t43, t44, t45, t46, t47, t48, t49, t50, t51, t52, t53, t54, t55, t56, t57, t58, t59, t60, t61, t62, t63, t64, t65, t66, t67, t68, t69, t70, t71, t72, t73, t74], ds⟩ W := by
  have H := Lib.hid h; clear h
  obtain ⟨i0, hi, hz0, hz1, hz2⟩ := info_parts infoInt
  obtain ⟨d0, d1, _⟩ := blk2c b
  have lz := b.lt
  have hwz := Below.size M.below
  have own1 := M.f.drew
  have own2 := M.s.drew
  have hne := M.ne
  have hbel := M.below.drew
  have b := b.drew
  clear d0 d1 lz M
  conv in (regOf _ _) => whnf
  refine wp_region_w (fun w' => Blk w' z 25 #[.int .i64 x, .int .i64 y] ∧ Below w0.heap.size w0 w') (by kernel_rfl) (⟨b, hbel⟩) ?_
  refine wpW_det (t' := ?ct0R241) 0 (by rfl) (by kernel_rfl) (NQ_free _) (by kernel_rfl) ?cw0R241 ?ch0R241 ?ca0R241 (Eq.refl _) ?cH0R241
  case cw0R241 => (go_simp; done)
  case ch0R241 =>
    intro ds w' hS K hK
    obtain ⟨d0, d1, df⟩ := blk2c hS.1
    have lz := hS.1.lt
    go_simp
    try go_bits
    exact hK _ hS (Gr.refl _)
  case ca0R241 => (first | (simp [Act.put]; done) | (simp [Act.put, *]; done))
  try dsimp only
  refine wpW_det (t' := ?ct1R241) 1 (by rfl) (by kernel_rfl) (NQ_free _) (by kernel_rfl) ?cw1R241 ?ch1R241 ?ca1R241 (Eq.refl _) ?cH1R241
  case cw1R241 => (go_simp; done)
  case ch1R241 =>
    intro ds w' hS K hK
    obtain ⟨d0, d1, df⟩ := blk2c hS.1
    have lz := hS.1.lt
    go_simp
    try go_bits
    exact hK _ hS (Gr.refl _)
  case ca1R241 => (first | (simp [Act.put]; done) | (simp [Act.put, *]; done))
  try dsimp only
  refine wpW_det (t' := ?ct2R241) 2 (by rfl) (by kernel_rfl) (NQ_free _) (by kernel_rfl) ?cw2R241 ?ch2R241 ?ca2R241 (Eq.refl _) ?cH2R241
  case cw2R241 => (go_simp; done)
  case ch2R241 =>
    intro ds w' hS K hK
    obtain ⟨d0, d1, df⟩ := blk2c hS.1
    have lz := hS.1.lt
    go_simp
    try go_bits
    exact hK _ hS (Gr.refl _)
  case ca2R241 => (first | (simp [Act.put]; done) | (simp [Act.put, *]; done))
  try dsimp only
  refine wpW_det (t' := ?ct5R241) 5 (by rfl) (by kernel_rfl) (NQ_free _) (by kernel_rfl) ?cw5R241 ?ch5R241 ?ca5R241 (Eq.refl _) ?cH5R241
  case cw5R241 => (go_simp; done)
  case ch5R241 =>
    intro ds w' hS K hK
    obtain ⟨d0, d1, df⟩ := blk2c hS.1
    have lz := hS.1.lt
    go_simp
    try go_bits
    exact hK _ hS (Gr.refl _)
  case ca5R241 => (first | (simp [Act.put]; done) | (simp [Act.put, *]; done))
  try dsimp only
  refine wpW_det (t' := ?ct6R241) 6 (by rfl) (by kernel_rfl) (NQ_free _) (by kernel_rfl) ?cw6R241 ?ch6R241 ?ca6R241 (Eq.refl _) ?cH6R241
  case cw6R241 => (go_simp; done)
  case ch6R241 =>
    intro ds w' hS K hK
    obtain ⟨d0, d1, df⟩ := blk2c hS.1
    have lz := hS.1.lt
    go_simp
    try go_bits
    exact hK _ hS (Gr.refl _)
  case ca6R241 => (first | (simp [Act.put]; done) | (simp [Act.put, *]; done))
  try dsimp only
  refine wpW_det (t' := ?ct7R241) 7 (by rfl) (by kernel_rfl) (NQ_free _) (by kernel_rfl) ?cw7R241 ?ch7R241 ?ca7R241 (Eq.refl _) ?cH7R241
  case cw7R241 => (go_simp; done)
  case ch7R241 =>
    intro ds w' hS K hK
    obtain ⟨d0, d1, df⟩ := blk2c hS.1
    have lz := hS.1.lt
    go_simp
    try go_bits
    exact hK _ hS (Gr.refl _)
  case ca7R241 => (first | (simp [Act.put]; done) | (simp [Act.put, *]; done))
  try dsimp only
  refine wpW_branch [3, 8] (by kernel_rfl) (by simp) ?_
  intro w1 hg1 hS1
  have hbel := hbel.trans (hg1.mono (Below.size hbel))
  have b := b.gr hg1
  try have own1 := own_below own1 hg1
  try have own1n := own_below own1n hg1
  have own2 := own_below own2 hg1
  try have n1 := Blk.gr n1 hg1
  try have n2 := Blk.gr n2 hg1
  refine each_cons ?_ (each_cons ?_ (each_nil))
  · refine wpOp_go (by rfl) (Eq.refl _) (by go_simp; done) ?_
    intro K hK
    go_simp
    try simp only [Act.put]
    have n1 := Blk.new w1 3 #[.int .i64 x]
    have own1 := own1.alloc (.cells #[.int .i64 x] 3)
    have own2 := own2.alloc (.cells #[.int .i64 x] 3)
    try have n2 := n2.alloc (.cells #[.int .i64 x] 3)
    have b := b.alloc (.cells #[.int .i64 x] 3)
    have hbel := hbel.alloc (Below.size hbel) (.cells #[.int .i64 x] 3)
    obtain ⟨N1, hN1⟩ : ∃ N, w1.heap.size = N := ⟨_, rfl⟩
    rw [hN1] at n1 ⊢
    clear hN1
    refine hK _ _ ⟨b, hbel⟩ ?_
    clear hK K
    refine wpW_branch [4, 8] (by kernel_rfl) (by simp) ?_
    intro w2 hg2 hS2
    have hbel := hbel.trans (hg2.mono (Below.size hbel))
    have b := b.gr hg2
    try have own1 := own_below own1 hg2
    try have own1n := own_below own1n hg2
    have own2 := own_below own2 hg2
    try have n1 := Blk.gr n1 hg2
    try have n2 := Blk.gr n2 hg2
    refine each_cons ?_ (each_cons ?_ (each_nil))
    · refine wpOp_go (by rfl) (Eq.refl _) (by go_simp; done) ?_
      intro K hK
      refine wp_append_at _ (.tmp 63) (.tmp 66) 37 rfl w0.heap.size 3 i0 (.int .i64 0) 1 8 Tryz.underlying37 hi hz0 hz1 hz2 rfl (by decide) vF n (intsC Fl) rfl own1 ⟨N1, 0, none⟩ 1 1 [.int .i64 x] rfl rfl ?hc (by simp [Value.oneCell']) (by unfold maxLen; omega) (by omega) (Below.size hbel) ?_
      case hc =>
        intro j q hj
        match j, hj with
        | 0, hj => simp at hj; subst hj; exact n1.cell 0
        | j + 1, hj => simp at hj
      intro uF wa ho hgrow hob
      try simp only [Act.put]
      try simp only [List.setIfInBounds_toArray]
      rw [intsC_put] at ho
      have hLT : ∀ q, vF.ownBlock = some q → w0.heap.size ≤ q := fun q e => (own1.lt q e).1
      have hzb := b.grown hgrow (fun e => own_blk_ne own1 b (by decide) e.symm)
      have hbel2 := hbel.grown hgrow (Below.size hbel) hLT
      try have n2 := n2.grown hgrow (fun e => hN2F _ e.symm rfl)
      have had := TwoI.addF own1 own2 hne ho hgrow hob
      clear own1 own2 b hbel
      have own1n := ho
      have own2 := had.1
      have hne2 := had.2
      have b := hzb
      have hbel := hbel2
      refine hK _ _ ⟨b, hbel⟩ ?_
      clear hK K had ho hob hgrow hLT n1 hne hzb hbel2
      try clear hN2F
      refine wpW_branch [8] (by kernel_rfl) (by simp) ?_
      intro w3 hg3 hS3
      have hbel := hbel.trans (hg3.mono (Below.size hbel))
      have b := b.gr hg3
      try have own1 := own_below own1 hg3
      try have own1n := own_below own1n hg3
      have own2 := own_below own2 hg3
      try have n1 := Blk.gr n1 hg3
      try have n2 := Blk.gr n2 hg3
      refine each_cons ?_ (each_nil)
      · refine wpOp_go (by rfl) (Eq.refl _) (by go_simp; done) ?_
        intro K hK
        go_simp
        try simp only [Act.put]
        have n2 := Blk.new w3 3 #[.int .i64 y]
        try have hN2F : ∀ b, vF.ownBlock = some b → b ≠ w3.heap.size := fun b e => by have := (own1.lt b e).2; omega
        try have own1 := own1.alloc (.cells #[.int .i64 y] 3)
        try have own1n := own1n.alloc (.cells #[.int .i64 y] 3)
        have own2 := own2.alloc (.cells #[.int .i64 y] 3)
        try have n1 := n1.alloc (.cells #[.int .i64 y] 3)
        have b := b.alloc (.cells #[.int .i64 y] 3)
        have hbel := hbel.alloc (Below.size hbel) (.cells #[.int .i64 y] 3)
        obtain ⟨N2, hN2⟩ : ∃ N, w3.heap.size = N := ⟨_, rfl⟩
        rw [hN2] at n2 ⊢
        try rw [hN2] at hN2F
        clear hN2
        refine hK _ _ ⟨b, hbel⟩ ?_
        clear hK K
        refine wpW_branch [9] (by kernel_rfl) (by simp) ?_
        intro w4 hg4 hS4
        have hbel := hbel.trans (hg4.mono (Below.size hbel))
        have b := b.gr hg4
        try have own1 := own_below own1 hg4
        try have own1n := own_below own1n hg4
        have own2 := own_below own2 hg4
        try have n1 := Blk.gr n1 hg4
        try have n2 := Blk.gr n2 hg4
        refine each_cons ?_ (each_nil)
        · refine wpOp_go (by rfl) (Eq.refl _) (by go_simp; done) ?_
          intro K hK
          refine wp_append_at _ (.tmp 68) (.tmp 71) 37 rfl w0.heap.size 3 i0 (.int .i64 0) 1 8 Tryz.underlying37 hi hz0 hz1 hz2 rfl (by decide) vS n (intsC Sl) rfl own2 ⟨N2, 0, none⟩ 1 1 [.int .i64 y] rfl rfl ?hc (by simp [Value.oneCell']) (by unfold maxLen; omega) (by omega) (Below.size hbel) ?_
          case hc =>
            intro j q hj
            match j, hj with
            | 0, hj => simp at hj; subst hj; exact n2.cell 0
            | j + 1, hj => simp at hj
          intro uS wa ho hgrow hob
          try simp only [Act.put]
          try simp only [List.setIfInBounds_toArray]
          rw [intsC_put] at ho
          have hLT : ∀ q, vS.ownBlock = some q → w0.heap.size ≤ q := fun q e => (own2.lt q e).1
          have hzb := b.grown hgrow (fun e => own_blk_ne own2 b (by decide) e.symm)
          have hbel2 := hbel.grown hgrow (Below.size hbel) hLT
          have had := TwoI.addF own2 own1n (fun b h1 h2 => hne2 b h2 h1) ho hgrow hob
          clear own2 b hbel
          have hfin : TwoI w0 (n + 1) uF uS (Fl ++ [x]) (Sl ++ [y]) wa := ⟨had.1, ho, fun b h1 h2 => had.2 b h2 h1, hbel2⟩
          refine hK _ _ ⟨hzb, hbel2⟩ ?_
          clear hK K had ho hob hgrow hLT n2 hne2 hzb hbel2 own1n
          refine wpW_det (t' := ?ct10R242) 10 (by rfl) (by kernel_rfl) (NQ_free _) (by kernel_rfl) ?cw10R242 ?ch10R242 ?ca10R242 (Eq.refl _) ?cH10R242
          case cw10R242 => (go_simp; done)
          case ch10R242 =>
            intro ds w' hS K hK
            skip
            go_simp
            try go_bits
            exact hK _ hS (Gr.refl _)
          case ca10R242 => (first | (simp [Act.put]; done) | (simp [Act.put, *]; done))
          try dsimp only
          refine wpW_det (t' := ?ct11R242) 11 (by rfl) (by kernel_rfl) (NQ_free _) (by kernel_rfl) ?cw11R242 ?ch11R242 ?ca11R242 (Eq.refl _) ?cH11R242
          case cw11R242 => (go_simp; done)
          case ch11R242 =>
            intro ds w' hS K hK
            skip
            go_simp
            try go_bits
            exact hK _ hS (Gr.refl _)
          case ca11R242 => (first | (simp [Act.put]; done) | (simp [Act.put, *]; done))
          try dsimp only
          refine wpW_end (by kernel_rfl) ?_
          intro we hg hS
          unfold NQ
          dsimp only
          exact H.out _ _ _ _ _ _ _ _ _ _ uF uS we (hfin.gr hg)
    · refine wpOp_go (by rfl) (Eq.refl _) (by go_simp; done) ?_
      intro K hK
      go_simp
      try simp only [Act.put]
      have n2 := Blk.new w2 3 #[.int .i64 y]
      try have hN2F : ∀ b, vF.ownBlock = some b → b ≠ w2.heap.size := fun b e => by have := (own1.lt b e).2; omega
      try have own1 := own1.alloc (.cells #[.int .i64 y] 3)
      try have own1n := own1n.alloc (.cells #[.int .i64 y] 3)
      have own2 := own2.alloc (.cells #[.int .i64 y] 3)
      try have n1 := n1.alloc (.cells #[.int .i64 y] 3)
      have b := b.alloc (.cells #[.int .i64 y] 3)
      have hbel := hbel.alloc (Below.size hbel) (.cells #[.int .i64 y] 3)
      obtain ⟨N2, hN2⟩ : ∃ N, w2.heap.size = N := ⟨_, rfl⟩
      rw [hN2] at n2 ⊢
      try rw [hN2] at hN2F
      clear hN2
      refine hK _ _ ⟨b, hbel⟩ ?_
      clear hK K
      refine wpW_branch [4] (by kernel_rfl) (by simp) ?_
      intro w3 hg3 hS3
      have hbel := hbel.trans (hg3.mono (Below.size hbel))
      have b := b.gr hg3
      try have own1 := own_below own1 hg3
      try have own1n := own_below own1n hg3
      have own2 := own_below own2 hg3
      try have n1 := Blk.gr n1 hg3
      try have n2 := Blk.gr n2 hg3
      refine each_cons ?_ (each_nil)
      · refine wpOp_go (by rfl) (Eq.refl _) (by go_simp; done) ?_
        intro K hK
        refine wp_append_at _ (.tmp 63) (.tmp 66) 37 rfl w0.heap.size 3 i0 (.int .i64 0) 1 8 Tryz.underlying37 hi hz0 hz1 hz2 rfl (by decide) vF n (intsC Fl) rfl own1 ⟨N1, 0, none⟩ 1 1 [.int .i64 x] rfl rfl ?hc (by simp [Value.oneCell']) (by unfold maxLen; omega) (by omega) (Below.size hbel) ?_
        case hc =>
          intro j q hj
          match j, hj with
          | 0, hj => simp at hj; subst hj; exact n1.cell 0
          | j + 1, hj => simp at hj
        intro uF wa ho hgrow hob
        try simp only [Act.put]
        try simp only [List.setIfInBounds_toArray]
        rw [intsC_put] at ho
        have hLT : ∀ q, vF.ownBlock = some q → w0.heap.size ≤ q := fun q e => (own1.lt q e).1
        have hzb := b.grown hgrow (fun e => own_blk_ne own1 b (by decide) e.symm)
        have hbel2 := hbel.grown hgrow (Below.size hbel) hLT
        try have n2 := n2.grown hgrow (fun e => hN2F _ e.symm rfl)
        have had := TwoI.addF own1 own2 hne ho hgrow hob
        clear own1 own2 b hbel
        have own1n := ho
        have own2 := had.1
        have hne2 := had.2
        have b := hzb
        have hbel := hbel2
        refine hK _ _ ⟨b, hbel⟩ ?_
        clear hK K had ho hob hgrow hLT n1 hne hzb hbel2
        try clear hN2F
        refine wpW_branch [9] (by kernel_rfl) (by simp) ?_
        intro w4 hg4 hS4
        have hbel := hbel.trans (hg4.mono (Below.size hbel))
        have b := b.gr hg4
        try have own1 := own_below own1 hg4
        try have own1n := own_below own1n hg4
        have own2 := own_below own2 hg4
        try have n1 := Blk.gr n1 hg4
        try have n2 := Blk.gr n2 hg4
        refine each_cons ?_ (each_nil)
        · refine wpOp_go (by rfl) (Eq.refl _) (by go_simp; done) ?_
          intro K hK
          refine wp_append_at _ (.tmp 68) (.tmp 71) 37 rfl w0.heap.size 3 i0 (.int .i64 0) 1 8 Tryz.underlying37 hi hz0 hz1 hz2 rfl (by decide) vS n (intsC Sl) rfl own2 ⟨N2, 0, none⟩ 1 1 [.int .i64 y] rfl rfl ?hc (by simp [Value.oneCell']) (by unfold maxLen; omega) (by omega) (Below.size hbel) ?_
          case hc =>
            intro j q hj
            match j, hj with
            | 0, hj => simp at hj; subst hj; exact n2.cell 0
            | j + 1, hj => simp at hj
          intro uS wa ho hgrow hob
          try simp only [Act.put]
          try simp only [List.setIfInBounds_toArray]
          rw [intsC_put] at ho
          have hLT : ∀ q, vS.ownBlock = some q → w0.heap.size ≤ q := fun q e => (own2.lt q e).1
          have hzb := b.grown hgrow (fun e => own_blk_ne own2 b (by decide) e.symm)
          have hbel2 := hbel.grown hgrow (Below.size hbel) hLT
          have had := TwoI.addF own2 own1n (fun b h1 h2 => hne2 b h2 h1) ho hgrow hob
          clear own2 b hbel
          have hfin : TwoI w0 (n + 1) uF uS (Fl ++ [x]) (Sl ++ [y]) wa := ⟨had.1, ho, fun b h1 h2 => had.2 b h2 h1, hbel2⟩
          refine hK _ _ ⟨hzb, hbel2⟩ ?_
          clear hK K had ho hob hgrow hLT n2 hne2 hzb hbel2 own1n
          refine wpW_det (t' := ?ct10R243) 10 (by rfl) (by kernel_rfl) (NQ_free _) (by kernel_rfl) ?cw10R243 ?ch10R243 ?ca10R243 (Eq.refl _) ?cH10R243
          case cw10R243 => (go_simp; done)
          case ch10R243 =>
            intro ds w' hS K hK
            skip
            go_simp
            try go_bits
            exact hK _ hS (Gr.refl _)
          case ca10R243 => (first | (simp [Act.put]; done) | (simp [Act.put, *]; done))
          try dsimp only
          refine wpW_det (t' := ?ct11R243) 11 (by rfl) (by kernel_rfl) (NQ_free _) (by kernel_rfl) ?cw11R243 ?ch11R243 ?ca11R243 (Eq.refl _) ?cH11R243
          case cw11R243 => (go_simp; done)
          case ch11R243 =>
            intro ds w' hS K hK
            skip
            go_simp
            try go_bits
            exact hK _ hS (Gr.refl _)
          case ca11R243 => (first | (simp [Act.put]; done) | (simp [Act.put, *]; done))
          try dsimp only
          refine wpW_end (by kernel_rfl) ?_
          intro we hg hS
          unfold NQ
          dsimp only
          exact H.out _ _ _ _ _ _ _ _ _ _ uF uS we (hfin.gr hg)
  · refine wpOp_go (by rfl) (Eq.refl _) (by go_simp; done) ?_
    intro K hK
    go_simp
    try simp only [Act.put]
    have n2 := Blk.new w1 3 #[.int .i64 y]
    try have hN2F : ∀ b, vF.ownBlock = some b → b ≠ w1.heap.size := fun b e => by have := (own1.lt b e).2; omega
    try have own1 := own1.alloc (.cells #[.int .i64 y] 3)
    try have own1n := own1n.alloc (.cells #[.int .i64 y] 3)
    have own2 := own2.alloc (.cells #[.int .i64 y] 3)
    try have n1 := n1.alloc (.cells #[.int .i64 y] 3)
    have b := b.alloc (.cells #[.int .i64 y] 3)
    have hbel := hbel.alloc (Below.size hbel) (.cells #[.int .i64 y] 3)
    obtain ⟨N2, hN2⟩ : ∃ N, w1.heap.size = N := ⟨_, rfl⟩
    rw [hN2] at n2 ⊢
    try rw [hN2] at hN2F
    clear hN2
    refine hK _ _ ⟨b, hbel⟩ ?_
    clear hK K
    refine wpW_branch [3] (by kernel_rfl) (by simp) ?_
    intro w2 hg2 hS2
    have hbel := hbel.trans (hg2.mono (Below.size hbel))
    have b := b.gr hg2
    try have own1 := own_below own1 hg2
    try have own1n := own_below own1n hg2
    have own2 := own_below own2 hg2
    try have n1 := Blk.gr n1 hg2
    try have n2 := Blk.gr n2 hg2
    refine each_cons ?_ (each_nil)
    · refine wpOp_go (by rfl) (Eq.refl _) (by go_simp; done) ?_
      intro K hK
      go_simp
      try simp only [Act.put]
      have n1 := Blk.new w2 3 #[.int .i64 x]
      have own1 := own1.alloc (.cells #[.int .i64 x] 3)
      have own2 := own2.alloc (.cells #[.int .i64 x] 3)
      try have n2 := n2.alloc (.cells #[.int .i64 x] 3)
      have b := b.alloc (.cells #[.int .i64 x] 3)
      have hbel := hbel.alloc (Below.size hbel) (.cells #[.int .i64 x] 3)
      obtain ⟨N1, hN1⟩ : ∃ N, w2.heap.size = N := ⟨_, rfl⟩
      rw [hN1] at n1 ⊢
      clear hN1
      refine hK _ _ ⟨b, hbel⟩ ?_
      clear hK K
      refine wpW_branch [4] (by kernel_rfl) (by simp) ?_
      intro w3 hg3 hS3
      have hbel := hbel.trans (hg3.mono (Below.size hbel))
      have b := b.gr hg3
      try have own1 := own_below own1 hg3
      try have own1n := own_below own1n hg3
      have own2 := own_below own2 hg3
      try have n1 := Blk.gr n1 hg3
      try have n2 := Blk.gr n2 hg3
      refine each_cons ?_ (each_nil)
      · refine wpOp_go (by rfl) (Eq.refl _) (by go_simp; done) ?_
        intro K hK
        refine wp_append_at _ (.tmp 63) (.tmp 66) 37 rfl w0.heap.size 3 i0 (.int .i64 0) 1 8 Tryz.underlying37 hi hz0 hz1 hz2 rfl (by decide) vF n (intsC Fl) rfl own1 ⟨N1, 0, none⟩ 1 1 [.int .i64 x] rfl rfl ?hc (by simp [Value.oneCell']) (by unfold maxLen; omega) (by omega) (Below.size hbel) ?_
        case hc =>
          intro j q hj
          match j, hj with
          | 0, hj => simp at hj; subst hj; exact n1.cell 0
          | j + 1, hj => simp at hj
        intro uF wa ho hgrow hob
        try simp only [Act.put]
        try simp only [List.setIfInBounds_toArray]
        rw [intsC_put] at ho
        have hLT : ∀ q, vF.ownBlock = some q → w0.heap.size ≤ q := fun q e => (own1.lt q e).1
        have hzb := b.grown hgrow (fun e => own_blk_ne own1 b (by decide) e.symm)
        have hbel2 := hbel.grown hgrow (Below.size hbel) hLT
        try have n2 := n2.grown hgrow (fun e => hN2F _ e.symm rfl)
        have had := TwoI.addF own1 own2 hne ho hgrow hob
        clear own1 own2 b hbel
        have own1n := ho
        have own2 := had.1
        have hne2 := had.2
        have b := hzb
        have hbel := hbel2
        refine hK _ _ ⟨b, hbel⟩ ?_
        clear hK K had ho hob hgrow hLT n1 hne hzb hbel2
        try clear hN2F
        refine wpW_branch [9] (by kernel_rfl) (by simp) ?_
        intro w4 hg4 hS4
        have hbel := hbel.trans (hg4.mono (Below.size hbel))
        have b := b.gr hg4
        try have own1 := own_below own1 hg4
        try have own1n := own_below own1n hg4
        have own2 := own_below own2 hg4
        try have n1 := Blk.gr n1 hg4
        try have n2 := Blk.gr n2 hg4
        refine each_cons ?_ (each_nil)
        · refine wpOp_go (by rfl) (Eq.refl _) (by go_simp; done) ?_
          intro K hK
          refine wp_append_at _ (.tmp 68) (.tmp 71) 37 rfl w0.heap.size 3 i0 (.int .i64 0) 1 8 Tryz.underlying37 hi hz0 hz1 hz2 rfl (by decide) vS n (intsC Sl) rfl own2 ⟨N2, 0, none⟩ 1 1 [.int .i64 y] rfl rfl ?hc (by simp [Value.oneCell']) (by unfold maxLen; omega) (by omega) (Below.size hbel) ?_
          case hc =>
            intro j q hj
            match j, hj with
            | 0, hj => simp at hj; subst hj; exact n2.cell 0
            | j + 1, hj => simp at hj
          intro uS wa ho hgrow hob
          try simp only [Act.put]
          try simp only [List.setIfInBounds_toArray]
          rw [intsC_put] at ho
          have hLT : ∀ q, vS.ownBlock = some q → w0.heap.size ≤ q := fun q e => (own2.lt q e).1
          have hzb := b.grown hgrow (fun e => own_blk_ne own2 b (by decide) e.symm)
          have hbel2 := hbel.grown hgrow (Below.size hbel) hLT
          have had := TwoI.addF own2 own1n (fun b h1 h2 => hne2 b h2 h1) ho hgrow hob
          clear own2 b hbel
          have hfin : TwoI w0 (n + 1) uF uS (Fl ++ [x]) (Sl ++ [y]) wa := ⟨had.1, ho, fun b h1 h2 => had.2 b h2 h1, hbel2⟩
          refine hK _ _ ⟨hzb, hbel2⟩ ?_
          clear hK K had ho hob hgrow hLT n2 hne2 hzb hbel2 own1n
          refine wpW_det (t' := ?ct10R244) 10 (by rfl) (by kernel_rfl) (NQ_free _) (by kernel_rfl) ?cw10R244 ?ch10R244 ?ca10R244 (Eq.refl _) ?cH10R244
          case cw10R244 => (go_simp; done)
          case ch10R244 =>
            intro ds w' hS K hK
            skip
            go_simp
            try go_bits
            exact hK _ hS (Gr.refl _)
          case ca10R244 => (first | (simp [Act.put]; done) | (simp [Act.put, *]; done))
          try dsimp only
          refine wpW_det (t' := ?ct11R244) 11 (by rfl) (by kernel_rfl) (NQ_free _) (by kernel_rfl) ?cw11R244 ?ch11R244 ?ca11R244 (Eq.refl _) ?cH11R244
          case cw11R244 => (go_simp; done)
          case ch11R244 =>
            intro ds w' hS K hK
            skip
            go_simp
            try go_bits
            exact hK _ hS (Gr.refl _)
          case ca11R244 => (first | (simp [Act.put]; done) | (simp [Act.put, *]; done))
          try dsimp only
          refine wpW_end (by kernel_rfl) ?_
          intro we hg hS
          unfold NQ
          dsimp only
          exact H.out _ _ _ _ _ _ _ _ _ _ uF uS we (hfin.gr hg)
end Go.Proofs.YtidgeagpgllkeaaGreat
