/- Maps keyed by cells: a range over them. Contract: the areas: the places. Contract: the areas: the cells of an area are marked. Contract: the areas: the loop over the places. -/
import Derived.Maps.RangeWalk
import Derived.Deep.LoopGhost
import Derived.Test.YtclpljbllnhhbaaGreatZeFaM
import Derived.Test.YtclpljbllnhhbaaGreatZeFaX
import Derived.Test.YtclpljbllnhhbaaGreatZeFaQ
namespace Go.Proofs.YtclpljbllnhhbaaGreat
open Go.RowKit Go.Maps Go.WideMaps

theorem agg2_of {cs : Array Value} (h : cs.size = 2) : ∃ a b, cs = #[a, b] := by
  obtain ⟨l⟩ := cs
  match l, h with
  | [a, b], _ => exact ⟨a, b, rfl⟩
theorem wf_w64 {x : Int} (h : (Lit.int .i64 x).wf = true) : W64 x := by
  unfold W64
  have h1 : IntKind.i64.min = -9223372036854775808 := by decide
  have h2 : IntKind.i64.max = 9223372036854775807 := by decide
  simp [Lit.wf, h1, h2] at h
  exact h
theorem keyLits_one {d : Nat} {a : Value} {ls : List Lit} (h : Tryz.prog.keyLits (d + 1) 3 [a] = some ls) : ∃ x, a = .int .i64 x ∧ W64 x ∧ ls = [.int .i64 x] := by
  unfold Program.keyLits at h
  simp only [Tryz.underlying3] at h
  cases a <;> simp at h
  obtain ⟨⟨rfl, hw⟩, rfl⟩ := h
  exact ⟨_, rfl, wf_w64 hw, rfl⟩
theorem key_inv {key : Value} {l : Lit} (h : keyOf Tryz.prog 39 key = some l) : ∃ r c, key = cellV r c ∧ W64 r ∧ W64 c ∧ l = kl r c := by
  unfold keyOf at h
  simp only [arr2.hu] at h
  split at h
  · rename_i hc
    rw [Bool.and_eq_true] at hc
    obtain ⟨_, hf⟩ := hc
    cases key with
    | agg cs =>
      have hs : cs.size = 2 := by simpa [Value.formed, arr2.hu, arr2.size] using hf
      obtain ⟨a, b, rfl⟩ := agg2_of hs
      obtain ⟨m, hm⟩ := sizePos
      rw [hm] at h
      unfold Program.keyLits at h
      simp only [arr2.hu, Value.cells] at h
      rw [if_pos (by rw [arr2.size]; rfl), show List.range 2 = [0, 1] from rfl, List.mapM_cons, List.mapM_cons, List.mapM_nil] at h
      simp only [arr2.one, Nat.zero_mul, Nat.one_mul, List.drop_zero, List.drop_succ_cons, List.take_succ_cons, List.take_zero] at h
      rcases h1 : Tryz.prog.keyLits (m + 1) 3 [a] with _ | la
      · simp [h1] at h
      · rcases h2 : Tryz.prog.keyLits (m + 1) 3 [b] with _ | lb
        · simp [h1, h2] at h
        · obtain ⟨x, rfl, wx, rfl⟩ := keyLits_one h1
          obtain ⟨y, rfl, wy, rfl⟩ := keyLits_one h2
          simp [h1, h2] at h
          exact ⟨x, y, rfl, wx, wy, h.symm⟩
    | _ => simp [Value.formed, arr2.hu] at hf
  · cases h

/-- A range over a map of cells under way: left: what is still to come. -/
def FRg (w : World) (b r n : Nat) (g : Int → Int → Int) (left : Int → Int → Bool) (cnt : Nat) : Prop :=
  ∃ (D : DataW Unit) (lf : Lit → Bool), w.ranges Tryz.prog 39 (plainElem Tryz.prog 3) b r n D lf cnt ∧ (∀ r c, W64 r → W64 c → Maps.has D (kl r c) = decide (0 ≤ g r c) ∧ D.atKey (kl r c) (.lit (.int .i64 0)) = .lit (.int .i64 (pos (g r c)))) ∧ ∀ x y, W64 x → W64 y → lf (kl x y) = left x y
section
variable {w w' : World} {b r n cnt : Nat} {g : Int → Int → Int} {left : Int → Int → Bool}
theorem FRg.fmap (h : FRg w b r n g left cnt) : FMap w b n g := let ⟨D, _, h, k, _⟩ := h; ⟨D, h.owns, k⟩
theorem FRg.lt (h : FRg w b r n g left cnt) : r < w.heap.size := let ⟨_, _, h, _⟩ := h; h.lt
theorem FRg.kept {row : Option Nat} (h : FRg w b r n g left cnt) (hg : w.grownBy w' row) (hb : some b ≠ row) (hr : some r ≠ row) : FRg w' b r n g left cnt := let ⟨D, lf, h, k⟩ := h; ⟨D, lf, h.kept hg hb hr, k⟩
theorem FRg.alloc (h : FRg w b r n g left cnt) (o : Obj) : FRg (w.alloc o) b r n g left cnt := let ⟨D, lf, h, k⟩ := h; ⟨D, lf, h.alloc o, k⟩
theorem FRg.below {B : Nat} (h : FRg w b r n g left cnt) (hb : Below B w w') (h1 : b < B) (h2 : r < B) : FRg w' b r n g left cnt := by
  obtain ⟨D, lf, ⟨es, clock, since, seen, c0, k1, k2, k3, k4, k5, k6⟩, k⟩ := h
  exact ⟨D, lf, ⟨es, clock, since, seen, c0, (hb.block b h1).trans k1, k2, k3, k4, (hb.block r h2).trans k5, k6⟩, k⟩
theorem FRg.gr (h : FRg w b r n g left cnt) (hb : Gr w w') : FRg w' b r n g left cnt := h.below hb h.fmap.lt h.lt
theorem FMap.range (h : FMap w b n g) {t : TypeId} (ht : Tryz.prog.underlying t = some (.map 39 3)) :
    ∃ w' cnt, (Instr.range t (.map (some b))).run Tryz.prog w = .ok (.pointer (some ⟨w.heap.size, 0, none⟩)) w' ∧ FRg w' b w.heap.size n g (fun x y => decide (0 ≤ g x y)) cnt ∧ w.grownBy w' none ∧ w'.heap.size = w.heap.size + 1 := by
  obtain ⟨D, h, k⟩ := h
  obtain ⟨w', hrun, r1, r2, r3⟩ := h.range cellLaw ht
  exact ⟨w', _, hrun, ⟨D, _, r1, k, fun x y hx hy => (k x y hx hy).1⟩, r2, r3⟩
theorem strike_cell {x y a c : Int} (hx : W64 x) (hy : W64 y) (ha : W64 a) (hc : W64 c) : (kl a c).sameKey (kl x y) = decide (a = x ∧ c = y) := by
  by_cases e : a = x ∧ c = y
  · obtain ⟨rfl, rfl⟩ := e
    simp [WideAt.sameKey_self (kl_key a c)]
  · rw [Maps.sameKey_ne (fun h => e (kl_inj ha hc hx hy h))]
    simp [e]
theorem FRg.next (h : FRg w b r n g left cnt) (ty : TypeId) :
    (cnt = 0 ∧ (∀ x y, W64 x → W64 y → left x y = false) ∧ (Instr.next (.pointer (some ⟨r, 0, none⟩)) false ty).run Tryz.prog w = .ok (.tuple #[.bool false]) w) ∨
    ∃ x y v w' cnt', W64 x ∧ W64 y ∧ left x y = true ∧ (Instr.next (.pointer (some ⟨r, 0, none⟩)) false ty).run Tryz.prog w = .ok (.tuple #[.bool true, cellV x y, .int .i64 v]) w' ∧
      FRg w' b r n g (fun a c => left a c && !decide (a = x ∧ c = y)) cnt' ∧ cnt' < cnt ∧ w.grownBy w' (some r) ∧ w'.heap.size = w.heap.size ∧ (Instr.entry (.pointer (some ⟨r, 0, none⟩))).run Tryz.prog w' = .ok (.tuple #[cellV x y, .int .i64 v]) w' := by
  obtain ⟨D, lf, h, k, kf⟩ := h
  rcases h.next cellLaw ty with ⟨h0, hl, hrun⟩ | ⟨key, v, l, z, w', cnt', hkey, hlk, hv, hat, hrun, hrg, hlt, hgr, hsz, hen⟩
  · exact .inl ⟨h0, fun x y hx hy => by rw [← kf x y hx hy]; exact hl _, hrun⟩
  · obtain ⟨x, y, rfl, hx, hy, rfl⟩ := key_inv hkey
    obtain ⟨a, rfl, _⟩ := plainElem_int_inv Tryz.underlying3 hv
    refine .inr ⟨x, y, a, w', cnt', hx, hy, by rw [← kf x y hx hy]; exact hlk, hrun, ⟨D, _, hrg, k, fun p q hp hq => ?_⟩, hlt, hgr, hsz, hen⟩
    rw [kf p q hp hq, strike_cell hx hy hp hq]
end
end Go.Proofs.YtclpljbllnhhbaaGreat

namespace Go.Proofs.YtclpljbllnhhbaaGreat
open Go.RowKit Go.Shelf

attribute [local go_sem] Oper.semAt_some
attribute [local irreducible] nbV

theorem FRg.ncells {W : World} {b r n cnt : Nat} {g : Int → Int → Int} {left : Int → Int → Bool} (h : FRg W b r n g left cnt) : ∃ o, W.heap[r]? = some o ∧ o.isCells = false := by
  obtain ⟨_, _, ⟨_, _, _, _, _, _, _, _, _, k5, _⟩, _⟩ := h
  exact ⟨_, k5, rfl⟩
/-- The memory of the loop that gathers the places. -/
structure PlM (w : World) (b r n : Nat) (g : Int → Int → Int) (level : Int) (corners : Bool) (left : Int → Int → Bool) (cnt : Nat) (k : Nat) (xs : List Value) (v : Value) (W : World) : Prop where
  b3 : Blk W w.heap.size 24 #[.int .i64 level, .bool corners]
  rg : FRg W b r n g left cnt
  row : W.ownsRow w.heap.size 39 2 v k xs
  below : Below w.heap.size w W
  hr : w.heap.size ≤ r
/-- What is in the places, and what is still to come. -/
structure PlP (g : Int → Int → Int) (level : Int) (left : Int → Int → Bool) (P : List (Int × Int)) : Prop where
  nodup : P.Nodup
  mem : ∀ x ∈ P, W64 x.1 ∧ W64 x.2 ∧ abv g x.1 x.2 level = true ∧ left x.1 x.2 = false
  all : ∀ x y, W64 x → W64 y → abv g x y level = true → left x y = false → (x, y) ∈ P
section
variable {w W W' : World} {b r n cnt cnt' k : Nat} {g : Int → Int → Int} {level : Int} {corners : Bool} {left left' : Int → Int → Bool} {P : List (Int × Int)} {xs : List Value} {v : Value}
theorem PlM.gr (h : PlM w b r n g level corners left cnt k xs v W) (hk : Gr W W') : PlM w b r n g level corners left cnt k xs v W' :=
  ⟨h.b3.gr hk, h.rg.gr hk, own_below h.row hk, h.below.trans (Below.mono hk (Below.size h.below)), h.hr⟩
theorem PlM.alloc (h : PlM w b r n g level corners left cnt k xs v W) (o : Obj) : PlM w b r n g level corners left cnt k xs v (W.alloc o) := h.gr ((Below.refl _ _).alloc (Nat.le_refl _) _)
/-- A step of the range. -/
theorem PlM.step (h : PlM w b r n g level corners left cnt k xs v W) (hg : W.grownBy W' (some r)) (hr' : FRg W' b r n g left' cnt') : PlM w b r n g level corners left' cnt' k xs v W' := by
  obtain ⟨o, ho, hc⟩ := h.rg.ncells
  have n3 : some w.heap.size ≠ some r := fun e => by
    obtain ⟨o', ho', hc', _⟩ := h.b3.iscells
    exact ne_of_cells ho' hc' ho hc (Option.some.inj e)
  have nr : v.ownBlock = none ∨ v.ownBlock ≠ some r := by
    rcases hv : v.ownBlock with _ | G
    · exact .inl rfl
    · refine .inr fun e => ?_
      obtain ⟨_, o', ho', hc', _⟩ := own_iscells h.row hv
      exact ne_of_cells ho' hc' ho hc (Option.some.inj e)
  exact ⟨h.b3.grown hg n3, hr', h.row.kept hg nr, h.below.grown hg (Below.size h.below) (fun k e => by cases e; exact h.hr), h.hr⟩
theorem PlM.append (h : PlM w b r n g level corners left cnt k xs v W) {k' : Nat} {xs' : List Value} {v' : Value} (hg : W.grownBy W' v.ownBlock) (row' : W'.ownsRow w.heap.size 39 2 v' k' xs') : PlM w b r n g level corners left cnt k' xs' v' W' := by
  refine ⟨h.b3.grown hg (fun e => own_blk_ne h.row h.b3 (by decide) e.symm), h.rg.kept hg (fun e => ?_) (fun e => ?_), row', h.below.grown hg (Below.size h.below) (fun r e => (own_iscells h.row e).1), h.hr⟩
  · obtain ⟨_, o, ho, hc, _⟩ := own_iscells h.row e.symm
    obtain ⟨o', ho', hc', _⟩ := h.rg.fmap.ncells
    exact ne_of_cells ho hc ho' hc' rfl
  · obtain ⟨_, o, ho, hc, _⟩ := own_iscells h.row e.symm
    obtain ⟨o', ho', hc'⟩ := h.rg.ncells
    exact ne_of_cells ho hc ho' hc' rfl
abbrev strikeL (left : Int → Int → Bool) (x y : Int) : Int → Int → Bool := fun a c => left a c && !decide (a = x ∧ c = y)
theorem PlP.not (h : PlP g level left P) {x y : Int} (ha : abv g x y level = false) : PlP g level (strikeL left x y) P := by
  refine ⟨h.nodup, fun z hz => ?_, fun a c wa wc hac hlf => ?_⟩
  · obtain ⟨z1, z2, z3, z4⟩ := h.mem z hz
    exact ⟨z1, z2, z3, by unfold strikeL; rw [z4]; rfl⟩
  · unfold strikeL at hlf
    rw [Bool.and_eq_false_iff] at hlf
    rcases hlf with h1 | h1
    · exact h.all a c wa wc hac h1
    · have : a = x ∧ c = y := by simpa using h1
      obtain ⟨rfl, rfl⟩ := this
      rw [ha] at hac; cases hac
theorem PlP.add (h : PlP g level left P) {x y : Int} (hx : W64 x) (hy : W64 y) (hl : left x y = true) (ha : abv g x y level = true) : PlP g level (strikeL left x y) (P ++ [(x, y)]) := by
  have hnot : (x, y) ∉ P := fun hm => by
    have := (h.mem _ hm).2.2.2
    rw [hl] at this; cases this
  refine ⟨?_, fun z hz => ?_, fun a c wa wc hac hlf => ?_⟩
  · rw [List.nodup_append]
    exact ⟨h.nodup, by simp, fun a ha b hb => by simp at hb; subst hb; exact fun e => hnot (e ▸ ha)⟩
  · rcases List.mem_append.1 hz with hz | hz
    · obtain ⟨z1, z2, z3, z4⟩ := h.mem z hz
      exact ⟨z1, z2, z3, by unfold strikeL; rw [z4]; rfl⟩
    · simp at hz; subst hz
      exact ⟨hx, hy, ha, by simp [strikeL]⟩
  · unfold strikeL at hlf
    rw [Bool.and_eq_false_iff] at hlf
    rcases hlf with h1 | h1
    · exact List.mem_append_left _ (h.all a c wa wc hac h1)
    · have : a = x ∧ c = y := by simpa using h1
      obtain ⟨rfl, rfl⟩ := this
      simp
theorem PlP.count {left : Int → Int → Bool} {P : List (Int × Int)} (h : PlP g level left P) (hM : FMap W b n g) : P.length ≤ n := hM.count h.nodup (fun x hx => by
  obtain ⟨z1, z2, z3, _⟩ := h.mem x hx
  exact ⟨((abv_iff _ _ _ _).1 z3).1, z1, z2⟩)
end

set_option maxRecDepth 100000 in
set_option maxHeartbeats 4000000 in
theorem places_round (b r n : Nat) (g : Int → Int → Int) (level : Int) (corners : Bool) (w : World) (hn : n ≤ 100000) (left : Int → Int → Bool) (cnt : Nat) (P : List (Int × Int)) (v : Value) (wr : World)
    (hI : PlM w b r n g level corners left cnt P.length (cellsC P) v wr) (hP : PlP g level left P)
    (K' : Act → World → Prop) (Q' : Exit → Act → World → Prop) {t0 t1 t2 t4 t5 t7 t9 t10 t11 t12 t13 t14 t15 t16 t17 t18 t19 t20 t21 t22 t23 t24 t25 t26 t28 t29 t30 t31 t32 t33 t34 t35 t36 t37 t38 t39 t40 t41 t42 t43 t44 t45 t46 t47 t48 t49 t50 t51 t52 t53 t54 t55 t56 t57 t58 t59 t60 t61 t62 t63 t64 t65 t66 t67 t68 t69 t70 t71 t72 : Value}
    (hnext : ∀ (t0 t1 t2 t4 t5 t7 t9 t10 t11 t12 t13 t14 t15 t16 t17 t18 t19 t20 t21 t22 t23 t24 t25 t26 t28 t29 t30 t31 t32 t33 t34 t35 t36 t37 t38 t39 t40 t41 t42 t43 t44 t45 t46 t47 t48 t49 t50 t51 t52 t53 t54 t55 t56 t57 t58 t59 t60 t61 t62 t63 t64 t65 t66 t67 t68 t69 t70 t71 t72 : Value) (left' : Int → Int → Bool) (cnt' : Nat) (P : List (Int × Int)) (v : Value) (wr : World), cnt' < cnt → PlM w b r n g level corners left' cnt' P.length (cellsC P) v wr → PlP g level left' P → K' ⟨#[t0, t1, t2, .pointer (some ⟨w.heap.size, 0, none⟩), t4, t5, .map (some b), t7, v, t9, t10, t11, t12, t13, t14, t15, t16, t17, t18, t19, t20, t21, t22, t23, t24, t25, t26, .pointer (some ⟨r, 0, none⟩), t28, t29, t30, t31, t32, t33, t34, t35, t36, t37, t38, t39, t40, t41, t42, t43, t44, t45, t46, t47, t48, t49, t50, t51, t52, t53, t54, t55, t56, t57, t58, t59, t60, t61, t62, t63, t64, t65, t66, t67, t68, t69, t70, t71, t72], []⟩ wr)
    (hexit : ∀ (t0 t1 t2 t4 t5 t7 t9 t10 t11 t12 t13 t14 t15 t16 t17 t18 t19 t20 t21 t22 t23 t24 t25 t26 t28 t29 t30 t31 t32 t33 t34 t35 t36 t37 t38 t39 t40 t41 t42 t43 t44 t45 t46 t47 t48 t49 t50 t51 t52 t53 t54 t55 t56 t57 t58 t59 t60 t61 t62 t63 t64 t65 t66 t67 t68 t69 t70 t71 t72 : Value), (∀ x y, W64 x → W64 y → left x y = false) → Q' (.exit 0) ⟨#[t0, t1, t2, .pointer (some ⟨w.heap.size, 0, none⟩), t4, t5, .map (some b), t7, v, t9, t10, t11, t12, t13, t14, t15, t16, t17, t18, t19, t20, t21, t22, t23, t24, t25, t26, .pointer (some ⟨r, 0, none⟩), t28, t29, t30, t31, t32, t33, t34, t35, t36, t37, t38, t39, t40, t41, t42, t43, t44, t45, t46, t47, t48, t49, t50, t51, t52, t53, t54, t55, t56, t57, t58, t59, t60, t61, t62, t63, t64, t65, t66, t67, t68, t69, t70, t71, t72], []⟩ wr) :
    (bodyOf Tryz.f13 0).wp Tryz.prog (Exit.then K' Q') ⟨#[t0, t1, t2, .pointer (some ⟨w.heap.size, 0, none⟩), t4, t5, .map (some b), t7, v, t9, t10, t11, t12, t13, t14, t15, t16, t17, t18, t19, t20, t21, t22, t23, t24, t25, t26, .pointer (some ⟨r, 0, none⟩), t28, t29, t30, t31, t32, t33, t34, t35, t36, t37, t38, t39, t40, t41, t42, t43, t44, t45, t46, t47, t48, t49, t50, t51, t52, t53, t54, t55, t56, t57, t58, t59, t60, t61, t62, t63, t64, t65, t66, t67, t68, t69, t70, t71, t72], []⟩ wr := by
  have HN := Lib.hid hnext; have HX := Lib.hid hexit
  clear hnext hexit
  conv in (bodyOf _ _) => whnf
  rcases hI.rg.next 0 with ⟨h0, hl, hrun⟩ | ⟨x, y, val, w1, cnt', wx, wy, hl, hrun, hr1, hlt, hg1, hsz, hen⟩
  · have HL := Lib.hid hl
    clear hl h0 hI hP
    go_wp2
    exact HX.out _ _ _ _ _ _ _ _ _ _ _ _ _ _ _ _ _ _ _ _ _ _ _ _ _ _ _ _ _ _ _ _ _ _ _ _ _ _ _ _ _ _ _ _ _ _ _ _ _ _ _ _ _ _ _ _ _ _ _ _ _ _ _ _ _ _ _ _ _ HL.out
  · have hJ1 := hI.step hg1 hr1
    have HP := Lib.hid hP
    have HLT := Lib.hid hlt; have HLL := Lib.hid hl
    have e3 := hJ1.b3; have l3 := e3.lt
    obtain ⟨c30, c31, _⟩ := blk2c e3
    clear hP hI hg1 hr1 hlt hl hsz
    have hFM := (hJ1.alloc (.cells #[.int .i64 x, .int .i64 y] 39)).rg.fmap
    have HJ2 := Lib.hid (hJ1.alloc (.cells #[.int .i64 x, .int .i64 y] 39))
    have bx := Blk.new w1 39 #[.int .i64 x, .int .i64 y]
    clear hJ1
    cases hab : abv g x y level
    · have HAB := Lib.hid hab
      clear hab
      go_wp2_with (go_at_call 34; refine (above_any b n g x y level _ hFM wx wy).mono ?_; rintro e w2 ⟨rfl, hB2⟩; rw [HAB.out])
      exact HN.out _ _ _ _ _ _ _ _ _ _ _ _ _ _ _ _ _ _ _ _ _ _ _ _ _ _ _ _ _ _ _ _ _ _ _ _ _ _ _ _ _ _ _ _ _ _ _ _ _ _ _ _ _ _ _ _ _ _ _ _ _ _ _ _ _ _ _ _ _ _ cnt' P v _ HLT.out (HJ2.out.gr hB2) (HP.out.not HAB.out)
    · have HAB := Lib.hid hab
      clear hab
      have hcount := HP.out.count hFM
      obtain ⟨i0, hi, hz0, hz1, hz2⟩ := info_parts infoCell
      go_wp2_with (first
        | (go_at_call 34; refine (above_any b n g x y level _ hFM wx wy).mono ?_; rintro e w2 ⟨rfl, hB2⟩; rw [HAB.out]; have bx2 := bx.gr hB2; have lx2 := bx2.lt; obtain ⟨cx0, cx1, _⟩ := blk2c bx2; have hJ3 := HJ2.out.gr hB2)
        | (at_builtin; refine wpList_append_own _ rfl _ _ 36 rfl w.heap.size 39 i0 (.agg #[.int .i64 0, .int .i64 0]) 2 16 Tryz.underlying36 hi hz0 hz1 hz2 rfl (by decide) _ _ _ rfl (hJ3.row.alloc _) ⟨w2.heap.size, 0, none⟩ 1 1 [.int .i64 x, .int .i64 y] rfl rfl (cell_two_new _ _ _ _) (by simp [Value.oneCell']) (by unfold maxLen; omega) (by omega) (by have := Below.size hJ3.below; simp; omega) ?_; intro v2 W5 hown' hgrow _; obtain ⟨g5, cap5, rfl⟩ := ownsRow_succ hown'; have hJ5 := (hJ3.alloc (.cells #[.int .i64 x, .int .i64 y] 39)).append hgrow hown'))
      have e1 : (P ++ [(x, y)]).length = P.length + 1 := by simp
      have e2 := cellsC_snoc P (x, y)
      exact HN.out _ _ _ _ _ _ _ _ _ _ _ _ _ _ _ _ _ _ _ _ _ _ _ _ _ _ _ _ _ _ _ _ _ _ _ _ _ _ _ _ _ _ _ _ _ _ _ _ _ _ _ _ _ _ _ _ _ _ _ _ _ _ _ _ _ _ _ _ _ _ cnt' (P ++ [(x, y)]) _ _ HLT.out (by rw [e1, e2]; exact hJ5) (HP.out.add wx wy HLL.out HAB.out)

set_option maxRecDepth 100000 in
set_option maxHeartbeats 4000000 in
theorem places_loop (b r n : Nat) (g : Int → Int → Int) (level : Int) (corners : Bool) (w : World) (hn : n ≤ 100000)
    (Q' : Exit → Act → World → Prop)
    (hexit : ∀ (t0 t1 t2 t4 t5 t7 t9 t10 t11 t12 t13 t14 t15 t16 t17 t18 t19 t20 t21 t22 t23 t24 t25 t26 t28 t29 t30 t31 t32 t33 t34 t35 t36 t37 t38 t39 t40 t41 t42 t43 t44 t45 t46 t47 t48 t49 t50 t51 t52 t53 t54 t55 t56 t57 t58 t59 t60 t61 t62 t63 t64 t65 t66 t67 t68 t69 t70 t71 t72 : Value) (P : List (Int × Int)) (v : Value) (left : Int → Int → Bool) (cnt : Nat) (wr : World), PlM w b r n g level corners left cnt P.length (cellsC P) v wr → PlP g level left P → (∀ x y, W64 x → W64 y → left x y = false) → Q' (.exit 0) ⟨#[t0, t1, t2, .pointer (some ⟨w.heap.size, 0, none⟩), t4, t5, .map (some b), t7, v, t9, t10, t11, t12, t13, t14, t15, t16, t17, t18, t19, t20, t21, t22, t23, t24, t25, t26, .pointer (some ⟨r, 0, none⟩), t28, t29, t30, t31, t32, t33, t34, t35, t36, t37, t38, t39, t40, t41, t42, t43, t44, t45, t46, t47, t48, t49, t50, t51, t52, t53, t54, t55, t56, t57, t58, t59, t60, t61, t62, t63, t64, t65, t66, t67, t68, t69, t70, t71, t72], []⟩ wr)
    {t0 t1 t2 t4 t5 t7 t9 t10 t11 t12 t13 t14 t15 t16 t17 t18 t19 t20 t21 t22 t23 t24 t25 t26 t28 t29 t30 t31 t32 t33 t34 t35 t36 t37 t38 t39 t40 t41 t42 t43 t44 t45 t46 t47 t48 t49 t50 t51 t52 t53 t54 t55 t56 t57 t58 t59 t60 t61 t62 t63 t64 t65 t66 t67 t68 t69 t70 t71 t72 : Value} (left : Int → Int → Bool) (cnt : Nat) (P : List (Int × Int)) (v : Value) (wr : World)
    (hI : PlM w b r n g level corners left cnt P.length (cellsC P) v wr) (hP : PlP g level left P) :
    (Code.loop (bodyOf Tryz.f13 0)).wp Tryz.prog Q' ⟨#[t0, t1, t2, .pointer (some ⟨w.heap.size, 0, none⟩), t4, t5, .map (some b), t7, v, t9, t10, t11, t12, t13, t14, t15, t16, t17, t18, t19, t20, t21, t22, t23, t24, t25, t26, .pointer (some ⟨r, 0, none⟩), t28, t29, t30, t31, t32, t33, t34, t35, t36, t37, t38, t39, t40, t41, t42, t43, t44, t45, t46, t47, t48, t49, t50, t51, t52, t53, t54, t55, t56, t57, t58, t59, t60, t61, t62, t63, t64, t65, t66, t67, t68, t69, t70, t71, t72], []⟩ wr := by
  refine wp_loop_ghost (fun m a' wr => ∃ (zf : Nat → Value) (left : Int → Int → Bool) (P : List (Int × Int)) (v : Value), a' = ⟨#[zf 0, zf 1, zf 2, .pointer (some ⟨w.heap.size, 0, none⟩), zf 4, zf 5, .map (some b), zf 7, v, zf 9, zf 10, zf 11, zf 12, zf 13, zf 14, zf 15, zf 16, zf 17, zf 18, zf 19, zf 20, zf 21, zf 22, zf 23, zf 24, zf 25, zf 26, .pointer (some ⟨r, 0, none⟩), zf 28, zf 29, zf 30, zf 31, zf 32, zf 33, zf 34, zf 35, zf 36, zf 37, zf 38, zf 39, zf 40, zf 41, zf 42, zf 43, zf 44, zf 45, zf 46, zf 47, zf 48, zf 49, zf 50, zf 51, zf 52, zf 53, zf 54, zf 55, zf 56, zf 57, zf 58, zf 59, zf 60, zf 61, zf 62, zf 63, zf 64, zf 65, zf 66, zf 67, zf 68, zf 69, zf 70, zf 71, zf 72], []⟩ ∧ PlM w b r n g level corners left m P.length (cellsC P) v wr ∧ PlP g level left P) cnt ⟨fun k => (#[t0, t1, t2, undef, t4, t5, undef, t7, undef, t9, t10, t11, t12, t13, t14, t15, t16, t17, t18, t19, t20, t21, t22, t23, t24, t25, t26, undef, t28, t29, t30, t31, t32, t33, t34, t35, t36, t37, t38, t39, t40, t41, t42, t43, t44, t45, t46, t47, t48, t49, t50, t51, t52, t53, t54, t55, t56, t57, t58, t59, t60, t61, t62, t63, t64, t65, t66, t67, t68, t69, t70, t71, t72] : Array Value).getD k undef, left, P, v, rfl, hI, hP⟩ ?_
  clear hI hP
  rintro m a' wr ⟨zf, left, P, v, rfl, hI, hP⟩
  refine places_round b r n g level corners w hn left m P v wr hI hP _ _ ?_ ?_
  · intro t0 t1 t2 t4 t5 t7 t9 t10 t11 t12 t13 t14 t15 t16 t17 t18 t19 t20 t21 t22 t23 t24 t25 t26 t28 t29 t30 t31 t32 t33 t34 t35 t36 t37 t38 t39 t40 t41 t42 t43 t44 t45 t46 t47 t48 t49 t50 t51 t52 t53 t54 t55 t56 t57 t58 t59 t60 t61 t62 t63 t64 t65 t66 t67 t68 t69 t70 t71 t72 left' cnt' P v wr hlt h1 h2
    exact ⟨cnt', hlt, fun k => (#[t0, t1, t2, undef, t4, t5, undef, t7, undef, t9, t10, t11, t12, t13, t14, t15, t16, t17, t18, t19, t20, t21, t22, t23, t24, t25, t26, undef, t28, t29, t30, t31, t32, t33, t34, t35, t36, t37, t38, t39, t40, t41, t42, t43, t44, t45, t46, t47, t48, t49, t50, t51, t52, t53, t54, t55, t56, t57, t58, t59, t60, t61, t62, t63, t64, t65, t66, t67, t68, t69, t70, t71, t72] : Array Value).getD k undef, left', P, v, rfl, h1, h2⟩
  · intro t0 t1 t2 t4 t5 t7 t9 t10 t11 t12 t13 t14 t15 t16 t17 t18 t19 t20 t21 t22 t23 t24 t25 t26 t28 t29 t30 t31 t32 t33 t34 t35 t36 t37 t38 t39 t40 t41 t42 t43 t44 t45 t46 t47 t48 t49 t50 t51 t52 t53 t54 t55 t56 t57 t58 t59 t60 t61 t62 t63 t64 t65 t66 t67 t68 t69 t70 t71 t72 h1
    exact hexit _ _ _ _ _ _ _ _ _ _ _ _ _ _ _ _ _ _ _ _ _ _ _ _ _ _ _ _ _ _ _ _ _ _ _ _ _ _ _ _ _ _ _ _ _ _ _ _ _ _ _ _ _ _ _ _ _ _ _ _ _ _ _ _ _ _ _ _ _ P v left m wr hI hP h1
end Go.Proofs.YtclpljbllnhhbaaGreat

namespace Go.Proofs.YtclpljbllnhhbaaGreat
open Go.RowKit Go.Shelf

attribute [local go_sem] Oper.semAt_some
attribute [local irreducible] nbV

/-- An area in memory: its cells' slice, and its cells. -/
abbrev ArA := Value × List (Int × Int)
def encA (g : Int → Int → Int) (a : ArA) : List Value := [a.1, .int .i64 (peakV g a.2).1, .int .i64 (peakV g a.2).2, .int .i64 (g (peakV g a.2).1 (peakV g a.2).2)]
def cellsA (g : Int → Int → Int) (As : List ArA) : List Value := As.flatMap (encA g)
/-- The memory of the loop over the places. -/
structure AoM (w : World) (b n S : Nat) (g : Int → Int → Int) (level : Int) (corners : Bool) (P : List (Int × Int)) (vP : Value) (As : List ArA) (vo : Value) (kk : Nat) (F : Int → Int → Bool) (W : World) : Prop where
  b3 : Blk W w.heap.size 24 #[.int .i64 level, .bool corners]
  hM : FMap W b n g
  hS : BMap W S kk F
  rowP : W.ownsRow w.heap.size 39 2 vP P.length (cellsC P)
  rowO : W.ownsRow w.heap.size 42 4 vo As.length (cellsA g As)
  rows : ∀ a ∈ As, W.ownsRow w.heap.size 39 2 a.1 a.2.length (cellsC a.2)
  below : Below w.heap.size w W
  hs : w.heap.size ≤ S ∧ S ≠ b
theorem own_nc {W W' : World} {base e size n : Nat} {v : Value} {xs : List Value} {row : Option Nat} (h : W.ownsRow base e size v n xs) (hg : W.grownBy W' row) (hr : ∀ r, row = some r → ∃ o, W.heap[r]? = some o ∧ o.isCells = false) : W'.ownsRow base e size v n xs := by
  refine h.kept hg ?_
  rcases hv : v.ownBlock with _ | G
  · exact .inl rfl
  · refine .inr fun e => ?_
    obtain ⟨o, ho, hc⟩ := hr _ e.symm
    obtain ⟨_, o', ho', hc', _⟩ := own_iscells h hv
    exact ne_of_cells ho' hc' ho hc rfl
theorem own_other {W W' : World} {base e e' size size' n n' : Nat} {v v' : Value} {xs xs' : List Value} (h : W.ownsRow base e size v n xs) (h' : W.ownsRow base e' size' v' n' xs') (hg : W.grownBy W' v'.ownBlock) (hne : e ≠ e') : W'.ownsRow base e size v n xs := by
  refine h.kept hg ?_
  rcases hv : v.ownBlock with _ | G
  · exact .inl rfl
  · refine .inr fun e0 => ?_
    rcases h.2 with ⟨rfl, _⟩ | ⟨g1, cap1, cur1, rfl, _, hh, _⟩
    · simp [Value.ownBlock] at hv
    · have eG : g1 = G := by simpa [Value.ownBlock] using hv
      subst eG
      exact own_blk_ne h' (cs := cur1) (t := e) hh (fun h => hne h.symm) e0.symm
theorem own_low {W : World} {base base' e size n : Nat} {v : Value} {xs : List Value} (h : W.ownsRow base e size v n xs) (hb : base' ≤ base) : W.ownsRow base' e size v n xs := by
  refine ⟨h.1, ?_⟩
  rcases h.2 with h0 | ⟨g', cap, cur, hv, hbs, r⟩
  · exact .inl h0
  · exact .inr ⟨g', cap, cur, hv, Nat.le_trans hb hbs, r⟩
section
variable {w W W' : World} {b n S kk : Nat} {g : Int → Int → Int} {level : Int} {corners : Bool} {P : List (Int × Int)} {vP vo : Value} {As : List ArA} {F : Int → Int → Bool}
theorem AoM.gr (h : AoM w b n S g level corners P vP As vo kk F W) (hk : Gr W W') : AoM w b n S g level corners P vP As vo kk F W' :=
  ⟨h.b3.gr hk, h.hM.gr hk, h.hS.gr hk, own_below h.rowP hk, own_below h.rowO hk, fun a ha => own_below (h.rows a ha) hk, h.below.trans (Below.mono hk (Below.size h.below)), h.hs⟩
theorem AoM.alloc (h : AoM w b n S g level corners P vP As vo kk F W) (o : Obj) : AoM w b n S g level corners P vP As vo kk F (W.alloc o) := h.gr ((Below.refl _ _).alloc (Nat.le_refl _) _)
theorem AoM.put (h : AoM w b n S g level corners P vP As vo kk F W) {kk' : Nat} {F' : Int → Int → Bool} (hg : W.grownBy W' (some S)) (hS' : BMap W' S kk' F') : AoM w b n S g level corners P vP As vo kk' F' W' := by
  have hr : ∀ r, some S = some r → ∃ o, W.heap[r]? = some o ∧ o.isCells = false := fun r e => by cases e; exact h.hS.ncells.imp fun _ h => ⟨h.1, h.2.1⟩
  refine ⟨h.b3.grown hg (fun e => ?_), h.hM.kept hg (fun e => h.hs.2 (Option.some.inj e).symm), hS', own_nc h.rowP hg hr, own_nc h.rowO hg hr, fun a ha => own_nc (h.rows a ha) hg hr, h.below.grown hg (Below.size h.below) (fun k e => by cases e; exact h.hs.1), h.hs⟩
  obtain ⟨o, ho, hc⟩ := hr _ e.symm
  obtain ⟨o', ho', hc', _⟩ := h.b3.iscells
  exact ne_of_cells ho' hc' ho hc rfl
theorem AoM.append (h : AoM w b n S g level corners P vP As vo kk F W) {a : ArA} {vo' : Value} (ha : W.ownsRow w.heap.size 39 2 a.1 a.2.length (cellsC a.2)) (hg : W.grownBy W' vo.ownBlock) (row' : W'.ownsRow w.heap.size 42 4 vo' (As.length + 1) (cellsA g As ++ encA g a)) : AoM w b n S g level corners P vP (As ++ [a]) vo' kk F W' := by
  have hm : ∀ {x : Nat} {o : Obj}, W.heap[x]? = some o → o.isCells = false → some x ≠ vo.ownBlock := fun ho hc e => by
    obtain ⟨_, o', ho', hc', _⟩ := own_iscells h.rowO e.symm
    exact ne_of_cells ho' hc' ho hc rfl
  refine ⟨h.b3.grown hg (fun e => own_blk_ne h.rowO h.b3 (by decide) e.symm), h.hM.kept hg ?_, h.hS.kept hg ?_, own_other h.rowP h.rowO hg (by decide), by rw [List.length_append]; simpa [cellsA] using row', fun x hx => ?_, h.below.grown hg (Below.size h.below) (fun r e => (own_iscells h.rowO e).1), h.hs⟩
  · obtain ⟨o, ho, hc, _⟩ := h.hM.ncells; exact hm ho hc
  · obtain ⟨o, ho, hc, _⟩ := h.hS.ncells; exact hm ho hc
  · rcases List.mem_append.1 hx with hx | hx
    · exact own_other (h.rows x hx) h.rowO hg (by decide)
    · simp at hx; subst hx; exact own_other ha h.rowO hg (by decide)
end
/-- What is marked when k cells of an area are. -/
abbrev markF (F : Int → Int → Bool) (cs : List (Int × Int)) : Int → Int → Bool := fun x y => F x y || decide ((x, y) ∈ cs)
theorem markF_step (F : Int → Int → Bool) (cs : List (Int × Int)) {k : Nat} (h : k < cs.length) : upd (markF F (cs.take k)) cs[k].1 cs[k].2 true = markF F (cs.take (k + 1)) := by
  have hm : ∀ z, z ∈ cs.take (k + 1) ↔ z ∈ cs.take k ∨ z = cs[k] := fun z => by rw [List.take_succ_eq_append_getElem h, List.mem_append, List.mem_singleton]
  funext x y
  unfold upd
  by_cases e : x = cs[k].1 ∧ y = cs[k].2
  · rw [if_pos e]
    have : (x, y) ∈ cs.take (k + 1) := (hm _).2 (.inr (Prod.ext e.1 e.2))
    show true = (F x y || decide ((x, y) ∈ cs.take (k + 1)))
    rw [decide_eq_true this, Bool.or_true]
  · rw [if_neg e]
    have : ¬ ((x, y) = cs[k]) := fun h => e ⟨congrArg Prod.fst h, congrArg Prod.snd h⟩
    show (F x y || decide ((x, y) ∈ cs.take k)) = (F x y || decide ((x, y) ∈ cs.take (k + 1)))
    congr 1
    exact decide_eq_decide.2 ⟨fun h => (hm _).2 (.inl h), fun h => ((hm _).1 h).resolve_right this⟩

set_option maxRecDepth 100000 in
set_option maxHeartbeats 4000000 in
theorem mark_round (b n S B14 G cap : Nat) (g : Int → Int → Int) (level : Int) (corners : Bool) (P cs : List (Int × Int)) (vP vo : Value) (As : List ArA) (i kk : Nat) (F : Int → Int → Bool) (w : World) (hcl : Hid (∀ x ∈ cs, W64 x.1 ∧ W64 x.2)) (hlen : cs.length ≤ 100000) (hkk : kk ≤ 100000000000) (k : Nat) (hk : k ≤ cs.length) (wr : World)
    (hI : AoM w b n S g level corners P vP As vo (kk + k) (markF F (cs.take k)) wr) (hA : wr.ownsRow w.heap.size 39 2 (.slice (some ⟨G, 0, none⟩) cs.length cap) cs.length (cellsC cs)) (h14 : Blk wr B14 42 (encA g (.slice (some ⟨G, 0, none⟩) cs.length cap, cs)).toArray)
    (K' : Act → World → Prop) (Q' : Exit → Act → World → Prop) {t0 t1 t2 t4 t5 t7 t8 t9 t12 t13 t15 t16 t17 t18 t19 t20 t21 t22 t23 t24 t25 t26 t27 t28 t29 t30 t31 t32 t33 t34 t35 t36 t37 t38 t39 t40 t41 t42 t43 t47 t48 t49 t50 t51 t52 t53 t54 t55 t56 t57 t61 t62 t63 t64 t65 t66 t67 t68 t69 t70 t71 t72 : Value}
    (hnext : ∀ (t0 t1 t2 t4 t5 t7 t8 t9 t12 t13 t15 t16 t17 t18 t19 t20 t21 t22 t23 t24 t25 t26 t27 t28 t29 t30 t31 t32 t33 t34 t35 t36 t37 t38 t39 t40 t41 t42 t43 t47 t48 t49 t50 t51 t52 t53 t54 t55 t56 t57 t61 t62 t63 t64 t65 t66 t67 t68 t69 t70 t71 t72 : Value) (wr : World), k + 1 ≤ cs.length → AoM w b n S g level corners P vP As vo (kk + (k + 1)) (markF F (cs.take (k + 1))) wr → wr.ownsRow w.heap.size 39 2 (.slice (some ⟨G, 0, none⟩) cs.length cap) cs.length (cellsC cs) → Blk wr B14 42 (encA g (.slice (some ⟨G, 0, none⟩) cs.length cap, cs)).toArray → K' ⟨#[t0, t1, t2, .pointer (some ⟨w.heap.size, 0, none⟩), t4, t5, .map (some b), t7, t8, t9, vo, .map (some S), t12, t13, .pointer (some ⟨B14, 0, none⟩), t15, t16, t17, t18, t19, t20, t21, t22, t23, t24, t25, t26, t27, t28, t29, t30, t31, t32, t33, t34, t35, t36, t37, t38, t39, t40, t41, t42, t43, vP, .int .i64 (P.length : Int), .int .i64 (i : Int), t47, t48, t49, t50, t51, t52, t53, t54, t55, t56, t57, .slice (some ⟨G, 0, none⟩) cs.length cap, .int .i64 (cs.length : Int), .int .i64 ((k + 1 : Nat) : Int), t61, t62, t63, t64, t65, t66, t67, t68, t69, t70, t71, t72], []⟩ wr)
    (hexit : ∀ (t0 t1 t2 t4 t5 t7 t8 t9 t12 t13 t15 t16 t17 t18 t19 t20 t21 t22 t23 t24 t25 t26 t27 t28 t29 t30 t31 t32 t33 t34 t35 t36 t37 t38 t39 t40 t41 t42 t43 t47 t48 t49 t50 t51 t52 t53 t54 t55 t56 t57 t61 t62 t63 t64 t65 t66 t67 t68 t69 t70 t71 t72 : Value), k = cs.length → Q' (.exit 4) ⟨#[t0, t1, t2, .pointer (some ⟨w.heap.size, 0, none⟩), t4, t5, .map (some b), t7, t8, t9, vo, .map (some S), t12, t13, .pointer (some ⟨B14, 0, none⟩), t15, t16, t17, t18, t19, t20, t21, t22, t23, t24, t25, t26, t27, t28, t29, t30, t31, t32, t33, t34, t35, t36, t37, t38, t39, t40, t41, t42, t43, vP, .int .i64 (P.length : Int), .int .i64 (i : Int), t47, t48, t49, t50, t51, t52, t53, t54, t55, t56, t57, .slice (some ⟨G, 0, none⟩) cs.length cap, .int .i64 (cs.length : Int), .int .i64 (k : Int), t61, t62, t63, t64, t65, t66, t67, t68, t69, t70, t71, t72], []⟩ wr) :
    (bodyOf Tryz.f13 2).wp Tryz.prog (Exit.then K' Q') ⟨#[t0, t1, t2, .pointer (some ⟨w.heap.size, 0, none⟩), t4, t5, .map (some b), t7, t8, t9, vo, .map (some S), t12, t13, .pointer (some ⟨B14, 0, none⟩), t15, t16, t17, t18, t19, t20, t21, t22, t23, t24, t25, t26, t27, t28, t29, t30, t31, t32, t33, t34, t35, t36, t37, t38, t39, t40, t41, t42, t43, vP, .int .i64 (P.length : Int), .int .i64 (i : Int), t47, t48, t49, t50, t51, t52, t53, t54, t55, t56, t57, .slice (some ⟨G, 0, none⟩) cs.length cap, .int .i64 (cs.length : Int), .int .i64 (k : Int), t61, t62, t63, t64, t65, t66, t67, t68, t69, t70, t71, t72], []⟩ wr := by
  have HN := Lib.hid hnext; have HX := Lib.hid hexit
  clear hnext hexit
  conv in (bodyOf _ _) => whnf
  by_cases hlt : k < cs.length
  · obtain ⟨p0, p1⟩ := rowCell hA hlt
    obtain ⟨wx, wy⟩ := hcl.out _ (List.getElem_mem hlt)
    have HSTEP := Lib.hid (markF_step F cs hlt)
    obtain ⟨x, hx⟩ : ∃ x, cs[k] = x := ⟨_, rfl⟩
    rw [hx] at p0 p1 wx wy HSTEP
    clear hx
    have hI1 := hI.alloc (.cells #[.int .i64 x.1, .int .i64 x.2] 39)
    have hg0 : Gr wr (wr.alloc (.cells #[.int .i64 x.1, .int .i64 x.2] 39)) := (Below.refl _ _).alloc (Nat.le_refl _) _
    obtain ⟨w2, hput, hS2, hg2⟩ := hI1.hS.put Tryz.underlying91 (by unfold maxLen; omega) true wx wy
    have hr : ∀ r, some S = some r → ∃ o, (wr.alloc (.cells #[.int .i64 x.1, .int .i64 x.2] 39)).heap[r]? = some o ∧ o.isCells = false := fun r e => by cases e; exact hI1.hS.ncells.imp fun _ h => ⟨h.1, h.2.1⟩
    have hA2 := own_nc (own_below hA hg0) hg2 hr
    have h142 := (h14.gr hg0).grown hg2 (fun e => by
      obtain ⟨o, ho, hc⟩ := hr _ e.symm
      obtain ⟨o', ho', hc', _⟩ := (h14.gr hg0).iscells
      exact ne_of_cells ho' hc' ho hc rfl)
    rw [HSTEP.out] at hS2
    have HI2 := Lib.hid (hI1.put hg2 hS2)
    have HA2 := Lib.hid hA2; have H14 := Lib.hid h142
    clear hI hI1 hS2 hg2 hr hA2 h142 h14 hg0
    have bx := Blk.new wr 39 #[.int .i64 x.1, .int .i64 x.2]
    go_wp2_with fail
    exact HN.out _ _ _ _ _ _ _ _ _ _ _ _ _ _ _ _ _ _ _ _ _ _ _ _ _ _ _ _ _ _ _ _ _ _ _ _ _ _ _ _ _ _ _ _ _ _ _ _ _ _ _ _ _ _ _ _ _ _ _ _ _ _ w2 hlt HI2.out HA2.out H14.out
  · obtain rfl : k = cs.length := by omega
    clear hI hA h14
    go_wp2
    exact HX.out _ _ _ _ _ _ _ _ _ _ _ _ _ _ _ _ _ _ _ _ _ _ _ _ _ _ _ _ _ _ _ _ _ _ _ _ _ _ _ _ _ _ _ _ _ _ _ _ _ _ _ _ _ _ _ _ _ _ _ _ _ _ trivial

set_option maxRecDepth 100000 in
set_option maxHeartbeats 4000000 in
theorem mark_loop (b n S B14 G cap : Nat) (g : Int → Int → Int) (level : Int) (corners : Bool) (P cs : List (Int × Int)) (vP vo : Value) (As : List ArA) (i kk : Nat) (F : Int → Int → Bool) (w : World) (hcl : Hid (∀ x ∈ cs, W64 x.1 ∧ W64 x.2)) (hlen : cs.length ≤ 100000) (hkk : kk ≤ 100000000000)
    (Q' : Exit → Act → World → Prop)
    (hexit : ∀ (t0 t1 t2 t4 t5 t7 t8 t9 t12 t13 t15 t16 t17 t18 t19 t20 t21 t22 t23 t24 t25 t26 t27 t28 t29 t30 t31 t32 t33 t34 t35 t36 t37 t38 t39 t40 t41 t42 t43 t47 t48 t49 t50 t51 t52 t53 t54 t55 t56 t57 t61 t62 t63 t64 t65 t66 t67 t68 t69 t70 t71 t72 : Value) (wr : World), AoM w b n S g level corners P vP As vo (kk + cs.length) (markF F cs) wr → wr.ownsRow w.heap.size 39 2 (.slice (some ⟨G, 0, none⟩) cs.length cap) cs.length (cellsC cs) → Blk wr B14 42 (encA g (.slice (some ⟨G, 0, none⟩) cs.length cap, cs)).toArray → Q' (.exit 4) ⟨#[t0, t1, t2, .pointer (some ⟨w.heap.size, 0, none⟩), t4, t5, .map (some b), t7, t8, t9, vo, .map (some S), t12, t13, .pointer (some ⟨B14, 0, none⟩), t15, t16, t17, t18, t19, t20, t21, t22, t23, t24, t25, t26, t27, t28, t29, t30, t31, t32, t33, t34, t35, t36, t37, t38, t39, t40, t41, t42, t43, vP, .int .i64 (P.length : Int), .int .i64 (i : Int), t47, t48, t49, t50, t51, t52, t53, t54, t55, t56, t57, .slice (some ⟨G, 0, none⟩) cs.length cap, .int .i64 (cs.length : Int), .int .i64 (cs.length : Int), t61, t62, t63, t64, t65, t66, t67, t68, t69, t70, t71, t72], []⟩ wr)
    {t0 t1 t2 t4 t5 t7 t8 t9 t12 t13 t15 t16 t17 t18 t19 t20 t21 t22 t23 t24 t25 t26 t27 t28 t29 t30 t31 t32 t33 t34 t35 t36 t37 t38 t39 t40 t41 t42 t43 t47 t48 t49 t50 t51 t52 t53 t54 t55 t56 t57 t61 t62 t63 t64 t65 t66 t67 t68 t69 t70 t71 t72 : Value} (wr : World) (hI : AoM w b n S g level corners P vP As vo kk F wr) (hA : wr.ownsRow w.heap.size 39 2 (.slice (some ⟨G, 0, none⟩) cs.length cap) cs.length (cellsC cs)) (h14 : Blk wr B14 42 (encA g (.slice (some ⟨G, 0, none⟩) cs.length cap, cs)).toArray) :
    (Code.loop (bodyOf Tryz.f13 2)).wp Tryz.prog Q' ⟨#[t0, t1, t2, .pointer (some ⟨w.heap.size, 0, none⟩), t4, t5, .map (some b), t7, t8, t9, vo, .map (some S), t12, t13, .pointer (some ⟨B14, 0, none⟩), t15, t16, t17, t18, t19, t20, t21, t22, t23, t24, t25, t26, t27, t28, t29, t30, t31, t32, t33, t34, t35, t36, t37, t38, t39, t40, t41, t42, t43, vP, .int .i64 (P.length : Int), .int .i64 (i : Int), t47, t48, t49, t50, t51, t52, t53, t54, t55, t56, t57, .slice (some ⟨G, 0, none⟩) cs.length cap, .int .i64 (cs.length : Int), .int .i64 ((0 : Nat) : Int), t61, t62, t63, t64, t65, t66, t67, t68, t69, t70, t71, t72], []⟩ wr := by
  have h0 : markF F (cs.take 0) = F := by funext x y; simp [markF]
  refine wp_loop_ghost (fun m a' wr => ∃ (zf : Nat → Value) (k : Nat), a' = ⟨#[zf 0, zf 1, zf 2, .pointer (some ⟨w.heap.size, 0, none⟩), zf 4, zf 5, .map (some b), zf 7, zf 8, zf 9, vo, .map (some S), zf 12, zf 13, .pointer (some ⟨B14, 0, none⟩), zf 15, zf 16, zf 17, zf 18, zf 19, zf 20, zf 21, zf 22, zf 23, zf 24, zf 25, zf 26, zf 27, zf 28, zf 29, zf 30, zf 31, zf 32, zf 33, zf 34, zf 35, zf 36, zf 37, zf 38, zf 39, zf 40, zf 41, zf 42, zf 43, vP, .int .i64 (P.length : Int), .int .i64 (i : Int), zf 47, zf 48, zf 49, zf 50, zf 51, zf 52, zf 53, zf 54, zf 55, zf 56, zf 57, .slice (some ⟨G, 0, none⟩) cs.length cap, .int .i64 (cs.length : Int), .int .i64 (k : Int), zf 61, zf 62, zf 63, zf 64, zf 65, zf 66, zf 67, zf 68, zf 69, zf 70, zf 71, zf 72], []⟩ ∧ m + k = cs.length ∧ AoM w b n S g level corners P vP As vo (kk + k) (markF F (cs.take k)) wr ∧ wr.ownsRow w.heap.size 39 2 (.slice (some ⟨G, 0, none⟩) cs.length cap) cs.length (cellsC cs) ∧ Blk wr B14 42 (encA g (.slice (some ⟨G, 0, none⟩) cs.length cap, cs)).toArray) cs.length ⟨fun k => (#[t0, t1, t2, undef, t4, t5, undef, t7, t8, t9, undef, undef, t12, t13, undef, t15, t16, t17, t18, t19, t20, t21, t22, t23, t24, t25, t26, t27, t28, t29, t30, t31, t32, t33, t34, t35, t36, t37, t38, t39, t40, t41, t42, t43, undef, undef, undef, t47, t48, t49, t50, t51, t52, t53, t54, t55, t56, t57, undef, undef, undef, t61, t62, t63, t64, t65, t66, t67, t68, t69, t70, t71, t72] : Array Value).getD k undef, 0, rfl, by omega, by rw [h0]; exact hI, hA, h14⟩ ?_
  clear hI hA h14
  rintro m a' wr ⟨zf, k, rfl, hmk, hI, hA, h14⟩
  refine mark_round b n S B14 G cap g level corners P cs vP vo As i kk F w hcl hlen hkk k (by omega) wr hI hA h14 _ _ ?_ ?_
  · intro t0 t1 t2 t4 t5 t7 t8 t9 t12 t13 t15 t16 t17 t18 t19 t20 t21 t22 t23 t24 t25 t26 t27 t28 t29 t30 t31 t32 t33 t34 t35 t36 t37 t38 t39 t40 t41 t42 t43 t47 t48 t49 t50 t51 t52 t53 t54 t55 t56 t57 t61 t62 t63 t64 t65 t66 t67 t68 t69 t70 t71 t72 wr h1 h2 h3 h4
    exact ⟨m - 1, by omega, fun k => (#[t0, t1, t2, undef, t4, t5, undef, t7, t8, t9, undef, undef, t12, t13, undef, t15, t16, t17, t18, t19, t20, t21, t22, t23, t24, t25, t26, t27, t28, t29, t30, t31, t32, t33, t34, t35, t36, t37, t38, t39, t40, t41, t42, t43, undef, undef, undef, t47, t48, t49, t50, t51, t52, t53, t54, t55, t56, t57, undef, undef, undef, t61, t62, t63, t64, t65, t66, t67, t68, t69, t70, t71, t72] : Array Value).getD k undef, k + 1, rfl, by omega, h2, h3, h4⟩
  · intro t0 t1 t2 t4 t5 t7 t8 t9 t12 t13 t15 t16 t17 t18 t19 t20 t21 t22 t23 t24 t25 t26 t27 t28 t29 t30 t31 t32 t33 t34 t35 t36 t37 t38 t39 t40 t41 t42 t43 t47 t48 t49 t50 t51 t52 t53 t54 t55 t56 t57 t61 t62 t63 t64 t65 t66 t67 t68 t69 t70 t71 t72 h1
    subst h1
    rw [List.take_length] at hI
    exact hexit _ _ _ _ _ _ _ _ _ _ _ _ _ _ _ _ _ _ _ _ _ _ _ _ _ _ _ _ _ _ _ _ _ _ _ _ _ _ _ _ _ _ _ _ _ _ _ _ _ _ _ _ _ _ _ _ _ _ _ _ _ _ wr hI hA h14
end Go.Proofs.YtclpljbllnhhbaaGreat

namespace Go.Proofs.YtclpljbllnhhbaaGreat
open Go.RowKit Go.Shelf

attribute [local go_sem] Oper.semAt_some
attribute [local irreducible] nbV

/-- The areas of the first i places; each with the place it was found from. -/
structure ArS (g : Int → Int → Int) (level : Int) (corners : Bool) (P : List (Int × Int)) (i : Nat) (Bs : List ((Int × Int) × ArA)) : Prop where
  each : ∀ q ∈ Bs, AreaOk g level corners q.1 q.2.2
  sub : (Bs.map (·.1)).Sublist (P.take i)
  cover : ∀ x ∈ P.take i, ∃ q ∈ Bs, x ∈ q.2.2
  apart : Bs.Pairwise fun a b => b.1 ∉ a.2.2
  low : ∀ q ∈ Bs, ∃ j, ∃ h : j < P.length, P[j] = q.1 ∧ ∀ x ∈ q.2.2, x ∉ P.take j
def doneF (Bs : List ((Int × Int) × ArA)) : Int → Int → Bool := fun x y => Bs.any fun q => decide ((x, y) ∈ q.2.2)
theorem infoArea : (Tryz.prog.info? 42).map (fun i => (i.zero, i.size, i.bytes)) = some (some (.agg #[.slice none 0 0, .int .i64 0, .int .i64 0, .int .i64 0]), 4, 48) := by kernel_rfl
theorem cell_four_new (w : World) (x y z u : Value) (t : TypeId) : ∀ j v, [x, y, z, u][j]? = some v → (w.alloc (.cells #[x, y, z, u] t)).cell? ((⟨w.heap.size, 0, none⟩ : Addr).add j) = some v := by
  intro j v hj
  have hb := Blk.new w t #[x, y, z, u]
  match j, hj with
  | 0, hj => simp at hj; subst hj; exact hb.cell 0
  | 1, hj => simp at hj; subst hj; exact hb.cell 1
  | 2, hj => simp at hj; subst hj; exact hb.cell 2
  | 3, hj => simp at hj; subst hj; exact hb.cell 3
  | k + 4, hj => simp at hj
section
variable {g : Int → Int → Int} {level : Int} {corners : Bool} {P : List (Int × Int)} {i : Nat} {Bs : List ((Int × Int) × ArA)}
theorem doneF_iff (Bs : List ((Int × Int) × ArA)) (x y : Int) : doneF Bs x y = true ↔ ∃ q ∈ Bs, (x, y) ∈ q.2.2 := by simp [doneF]
theorem ArS.nil : ArS g level corners P 0 [] := ⟨by simp, by simp, by simp, by simp, by simp⟩
theorem ArS.skip (h : ArS g level corners P i Bs) (hi : i < P.length) (hd : doneF Bs P[i].1 P[i].2 = true) : ArS g level corners P (i + 1) Bs := by
  refine ⟨h.each, ?_, fun x hx => ?_, h.apart, h.low⟩
  · rw [List.take_succ_eq_append_getElem hi]
    exact h.sub.trans (List.sublist_append_left _ _)
  · rw [List.take_succ_eq_append_getElem hi, List.mem_append, List.mem_singleton] at hx
    rcases hx with hx | rfl
    · exact h.cover x hx
    · exact (doneF_iff _ _ _).1 hd
theorem ArS.add (h : ArS g level corners P i Bs) (hi : i < P.length) (hd : doneF Bs P[i].1 P[i].2 = false) (ha : abv g P[i].1 P[i].2 level = true) {v : Value} {cs : List (Int × Int)} (hA : AreaOk g level corners P[i] cs) : ArS g level corners P (i + 1) (Bs ++ [(P[i], (v, cs))]) := by
  refine ⟨fun q hq => ?_, ?_, fun x hx => ?_, ?_, fun q hq => ?_⟩
  · rcases List.mem_append.1 hq with hq | hq
    · exact h.each q hq
    · rw [List.mem_singleton] at hq; subst hq; exact hA
  · rw [List.take_succ_eq_append_getElem hi, List.map_append]
    exact h.sub.append (List.Sublist.refl _)
  · rw [List.take_succ_eq_append_getElem hi, List.mem_append, List.mem_singleton] at hx
    rcases hx with hx | rfl
    · obtain ⟨q, hq, hm⟩ := h.cover x hx
      exact ⟨q, List.mem_append_left _ hq, hm⟩
    · exact ⟨_, List.mem_append_right _ (List.mem_singleton.2 rfl), (hA.mem _).2 .refl⟩
  · rw [List.pairwise_append]
    refine ⟨h.apart, by simp, fun a ha b hb => ?_⟩
    rw [List.mem_singleton] at hb; subst hb
    intro hm
    have : doneF Bs P[i].1 P[i].2 = true := (doneF_iff _ _ _).2 ⟨a, ha, hm⟩
    rw [hd] at this; cases this
  · rcases List.mem_append.1 hq with hq | hq
    · exact h.low q hq
    · rw [List.mem_singleton] at hq; subst hq
      refine ⟨i, hi, rfl, fun x hx hxt => ?_⟩
      obtain ⟨q, hq, hm⟩ := h.cover x hxt
      have h1 := ((h.each q hq).mem x).1 hm
      have h2 := Conn.symm ha ((hA.mem x).1 hx)
      have : doneF Bs P[i].1 P[i].2 = true := (doneF_iff _ _ _).2 ⟨q, hq, ((h.each q hq).mem _).2 (h1.trans h2)⟩
      rw [hd] at this; cases this
theorem doneF_add (Bs : List ((Int × Int) × ArA)) (p : Int × Int) (v : Value) (cs : List (Int × Int)) : doneF (Bs ++ [(p, (v, cs))]) = markF (doneF Bs) cs := by
  funext x y; simp [doneF, markF]
end

set_option maxRecDepth 100000 in
set_option maxHeartbeats 4000000 in
theorem areas_round (b n S cap : Nat) (pP : Option Addr) (g : Int → Int → Int) (level : Int) (corners : Bool) (P : List (Int × Int)) (Bs : List ((Int × Int) × ArA)) (vo : Value) (i kk : Nat) (w : World) (hn : n ≤ 100000) (hkn : Hid (∀ x y, 0 ≤ g x y → (-100000 ≤ x ∧ x ≤ 100023) ∧ (-100000 ≤ y ∧ y ≤ 100023))) (hbd : Hid (∀ x y, g x y ≤ 1000000000)) (hPa : Hid (∀ x ∈ P, abv g x.1 x.2 level = true)) (hPl : P.length ≤ 100000) (hi : i ≤ P.length) (hkk : kk ≤ i * n) (hBl : Bs.length ≤ i) (wr : World)
    (hI : AoM w b n S g level corners P (.slice pP P.length cap) (Bs.map (·.2)) vo kk (doneF Bs) wr) (hS : ArS g level corners P i Bs)
    (K' : Act → World → Prop) (Q' : Exit → Act → World → Prop) {t0 t1 t2 t4 t5 t7 t8 t9 t12 t13 t14 t15 t16 t17 t18 t19 t20 t21 t22 t23 t24 t25 t26 t27 t28 t29 t30 t31 t32 t33 t34 t35 t36 t37 t38 t39 t40 t41 t42 t43 t47 t48 t49 t50 t51 t52 t53 t54 t55 t56 t57 t58 t59 t60 t61 t62 t63 t64 t65 t66 t67 t68 t69 t70 t71 t72 : Value}
    (hnext : ∀ (t0 t1 t2 t4 t5 t7 t8 t9 t12 t13 t14 t15 t16 t17 t18 t19 t20 t21 t22 t23 t24 t25 t26 t27 t28 t29 t30 t31 t32 t33 t34 t35 t36 t37 t38 t39 t40 t41 t42 t43 t47 t48 t49 t50 t51 t52 t53 t54 t55 t56 t57 t58 t59 t60 t61 t62 t63 t64 t65 t66 t67 t68 t69 t70 t71 t72 : Value) (Bs : List ((Int × Int) × ArA)) (vo : Value) (kk : Nat) (wr : World), i + 1 ≤ P.length → kk ≤ (i + 1) * n → Bs.length ≤ i + 1 → AoM w b n S g level corners P (.slice pP P.length cap) (Bs.map (·.2)) vo kk (doneF Bs) wr → ArS g level corners P (i + 1) Bs → K' ⟨#[t0, t1, t2, .pointer (some ⟨w.heap.size, 0, none⟩), t4, t5, .map (some b), t7, t8, t9, vo, .map (some S), t12, t13, t14, t15, t16, t17, t18, t19, t20, t21, t22, t23, t24, t25, t26, t27, t28, t29, t30, t31, t32, t33, t34, t35, t36, t37, t38, t39, t40, t41, t42, t43, .slice pP P.length cap, .int .i64 (P.length : Int), .int .i64 ((i + 1 : Nat) : Int), t47, t48, t49, t50, t51, t52, t53, t54, t55, t56, t57, t58, t59, t60, t61, t62, t63, t64, t65, t66, t67, t68, t69, t70, t71, t72], []⟩ wr)
    (hexit : ∀ (t0 t1 t2 t4 t5 t7 t8 t9 t12 t13 t14 t15 t16 t17 t18 t19 t20 t21 t22 t23 t24 t25 t26 t27 t28 t29 t30 t31 t32 t33 t34 t35 t36 t37 t38 t39 t40 t41 t42 t43 t47 t48 t49 t50 t51 t52 t53 t54 t55 t56 t57 t58 t59 t60 t61 t62 t63 t64 t65 t66 t67 t68 t69 t70 t71 t72 : Value), i = P.length → Q' (.exit 2) ⟨#[t0, t1, t2, .pointer (some ⟨w.heap.size, 0, none⟩), t4, t5, .map (some b), t7, t8, t9, vo, .map (some S), t12, t13, t14, t15, t16, t17, t18, t19, t20, t21, t22, t23, t24, t25, t26, t27, t28, t29, t30, t31, t32, t33, t34, t35, t36, t37, t38, t39, t40, t41, t42, t43, .slice pP P.length cap, .int .i64 (P.length : Int), .int .i64 (i : Int), t47, t48, t49, t50, t51, t52, t53, t54, t55, t56, t57, t58, t59, t60, t61, t62, t63, t64, t65, t66, t67, t68, t69, t70, t71, t72], []⟩ wr) :
    (bodyOf Tryz.f13 1).wp Tryz.prog (Exit.then K' Q') ⟨#[t0, t1, t2, .pointer (some ⟨w.heap.size, 0, none⟩), t4, t5, .map (some b), t7, t8, t9, vo, .map (some S), t12, t13, t14, t15, t16, t17, t18, t19, t20, t21, t22, t23, t24, t25, t26, t27, t28, t29, t30, t31, t32, t33, t34, t35, t36, t37, t38, t39, t40, t41, t42, t43, .slice pP P.length cap, .int .i64 (P.length : Int), .int .i64 (i : Int), t47, t48, t49, t50, t51, t52, t53, t54, t55, t56, t57, t58, t59, t60, t61, t62, t63, t64, t65, t66, t67, t68, t69, t70, t71, t72], []⟩ wr := by
  have HK1 : Hid (kk ≤ (i + 1) * n) := Lib.hid (Nat.le_trans hkk (Nat.mul_le_mul_right n (Nat.le_succ i)))
  have HK3 : Hid (∀ m, m ≤ n → kk + m ≤ (i + 1) * n) := Lib.hid (fun m hm => by rw [Nat.succ_mul]; exact Nat.add_le_add hkk hm)
  have HKB : Hid (kk ≤ 100000000000) := Lib.hid (Nat.le_trans hkk (Nat.le_trans (Nat.mul_le_mul (Nat.le_trans hi hPl) hn) (by decide)))
  have HK2' : Hid (Bs.length ≤ i) := Lib.hid hBl
  have HK2 : Hid (Bs.length ≤ i + 1) := Lib.hid (by omega)
  have HN := Lib.hid hnext; have HX := Lib.hid hexit
  clear hnext hexit
  conv in (bodyOf _ _) => whnf
  by_cases hlt : i < P.length
  · obtain ⟨G, cap', hv, _, _⟩ := hI.rowP.form (by omega)
    obtain ⟨rfl, rfl⟩ : pP = some ⟨G, 0, none⟩ ∧ cap = cap' := by injection hv with h1 h2 h3; exact ⟨h1, h3⟩
    clear hv
    obtain ⟨p0, p1⟩ := rowCell hI.rowP hlt
    have ha := hPa.out _ (List.getElem_mem hlt)
    have HSK := Lib.hid (fun hd => hS.skip hlt hd)
    have HAD := Lib.hid (fun hd v cs hA => hS.add hlt hd ha (v := v) (cs := cs) hA)
    obtain ⟨x, hx⟩ : ∃ x, P[i] = x := ⟨_, rfl⟩
    rw [hx] at p0 p1 ha HSK HAD
    clear hx hS
    have HA := Lib.hid ha; clear ha
    obtain ⟨gp, _⟩ := (abv_iff _ _ _ _).1 HA.out
    obtain ⟨hr, hc⟩ := hkn.out _ _ gp
    have wx : W64 x.1 := by unfold W64; omega
    have wy : W64 x.2 := by unfold W64; omega
    clear gp hr hc
    have hI1 := hI.alloc (.cells #[.int .i64 x.1, .int .i64 x.2] 39)
    have hlk := hI1.hS.look Tryz.underlying91 wx wy
    have bx := Blk.new wr 39 #[.int .i64 x.1, .int .i64 x.2]
    have e3 := hI.b3; have l3 := e3.lt
    obtain ⟨c30, c31, _⟩ := blk2c e3
    have HI1 := Lib.hid hI1
    clear hI hI1
    cases hd : doneF Bs x.1 x.2
    · rw [hd] at hlk
      have HD := Lib.hid hd; clear hd
      go_wp2_with (go_at_call 37; refine (area_any b n g level corners x.1 x.2 _ HI1.out.hM hn hkn hbd HA.out).mono ?_; rintro e w2 ⟨va, cs, rfl, hAo, hra, hB2⟩; refine RowKit.Hid.out ?_)
      refine Lib.hid ?_
      have hsz : (wr.alloc (.cells #[.int .i64 x.1, .int .i64 x.2] 39)).heap.size = wr.heap.size + 1 := by simp
      have hb0 := Below.size HI1.out.below
      have hra0 := own_low hra hb0
      have HI2 := HI1.out.gr hB2
      have hAc : AreaOk g level corners x cs := hAo
      have hpos : 0 < cs.length := List.length_pos_of_mem ((hAc.mem x).2 .refl)
      obtain ⟨G2, cap2, rfl, hG2, hGl2⟩ := hra.form hpos
      have hcs : ∀ y ∈ cs, 0 ≤ g y.1 y.2 ∧ W64 y.1 ∧ W64 y.2 := fun y hy => by
        obtain ⟨gx, _⟩ := (abv_iff _ _ _ _).1 (((hAc.mem y).1 hy).abv HA.out)
        obtain ⟨a1, a2⟩ := hkn.out _ _ gx
        exact ⟨gx, by unfold W64; omega, by unfold W64; omega⟩
      have hcl : cs.length ≤ n := HI2.hM.count hAc.nodup hcs
      have HC : Hid (∀ y ∈ cs, W64 y.1 ∧ W64 y.2) := Lib.hid (fun y hy => (hcs y hy).2)
      have h14 : Blk (w2.alloc (.cells #[.slice (some ⟨G2, 0, none⟩) cs.length cap2, .int .i64 (peakV g cs).1, .int .i64 (peakV g cs).2, .int .i64 (g (peakV g cs).1 (peakV g cs).2)] 42)) w2.heap.size 42 (encA g (.slice (some ⟨G2, 0, none⟩) cs.length cap2, cs)).toArray := Blk.new _ _ _
      have HI3 := Lib.hid (HI2.alloc (.cells #[.slice (some ⟨G2, 0, none⟩) cs.length cap2, .int .i64 (peakV g cs).1, .int .i64 (peakV g cs).2, .int .i64 (g (peakV g cs).1 (peakV g cs).2)] 42))
      have HRA := Lib.hid (own_below hra0 ((Below.refl w2.heap.size w2).alloc (Nat.le_refl _) (.cells #[.slice (some ⟨G2, 0, none⟩) cs.length cap2, .int .i64 (peakV g cs).1, .int .i64 (peakV g cs).2, .int .i64 (g (peakV g cs).1 (peakV g cs).2)] 42)))
      have H14 := Lib.hid h14
      have HAC := Lib.hid hAc
      clear HI2 hra hra0 hAo hAc hcs h14 hB2 hsz hb0 hG2 hGl2 hpos HI1 hlk bx e3 l3 c30 c31
      have HK5 := Lib.hid (HK3.out _ hcl)
      clear hkk
      go_wp2_with fail
      have hl := mark_loop b n S w2.heap.size G2 cap2 g level corners P cs (.slice (some ⟨G, 0, none⟩) P.length cap) vo (Bs.map (·.2)) i kk (doneF Bs) w HC (by omega) HKB.out
      unfold bodyOf at hl
      conv at hl in (Option.getD _ Code.skip) => whnf
      refine hl _ ?_ _ HI3.out HRA.out H14.out
      clear hl HI3 HRA H14
      intro t0 t1 t2 t4 t5 t7 t8 t9 t12 t13 t15 t16 t17 t18 t19 t20 t21 t22 t23 t24 t25 t26 t27 t28 t29 t30 t31 t32 t33 t34 t35 t36 t37 t38 t39 t40 t41 t42 t43 t47 t48 t49 t50 t51 t52 t53 t54 t55 t56 t57 t61 t62 t63 t64 t65 t66 t67 t68 t69 t70 t71 t72 w3 hI3 hA3 h143
      have h144 : Blk w3 w2.heap.size 42 #[.slice (some ⟨G2, 0, none⟩) cs.length cap2, .int .i64 (peakV g cs).1, .int .i64 (peakV g cs).2, .int .i64 (g (peakV g cs).1 (peakV g cs).2)] := h143
      have l144 := h144.lt
      obtain ⟨k0, k1, k2, k3, kf⟩ := blk4 h144
      obtain ⟨i0, hi0, hz0, hz1, hz2⟩ := info_parts infoArea
      have HI3 := Lib.hid hI3; have HA3 := Lib.hid hA3
      have hBn : (Bs.map (·.2)).length ≤ 100000 := by rw [List.length_map]; omega
      clear hI3 hA3 h143 h144
      go_wp2_with (at_builtin; refine wpList_append_own _ rfl _ _ 51 rfl w.heap.size 42 i0 (.agg #[.slice none 0 0, .int .i64 0, .int .i64 0, .int .i64 0]) 4 48 Tryz.underlying51 hi0 hz0 hz1 hz2 rfl (by decide) _ _ _ rfl (HI3.out.rowO.alloc _) ⟨w3.heap.size, 0, none⟩ 1 1 [.slice (some ⟨G2, 0, none⟩) cs.length cap2, .int .i64 (peakV g cs).1, .int .i64 (peakV g cs).2, .int .i64 (g (peakV g cs).1 (peakV g cs).2)] rfl rfl (cell_four_new _ _ _ _ _ _) (by simp [Value.oneCell']) (by unfold maxLen; omega) (by omega) (by have := Below.size HI3.out.below; simp; omega) ?_; intro v2 W5 hown' hgrow _; obtain ⟨g5, cap5, rfl⟩ := ownsRow_succ hown'; have hJ5 := (HI3.out.alloc (.cells #[.slice (some ⟨G2, 0, none⟩) cs.length cap2, .int .i64 (peakV g cs).1, .int .i64 (peakV g cs).2, .int .i64 (g (peakV g cs).1 (peakV g cs).2)] 42)).append (a := (.slice (some ⟨G2, 0, none⟩) cs.length cap2, cs)) (own_below HA3.out ((Below.refl _ _).alloc (Nat.le_refl _) _)) hgrow hown')
      exact HN.out _ _ _ _ _ _ _ _ _ _ _ _ _ _ _ _ _ _ _ _ _ _ _ _ _ _ _ _ _ _ _ _ _ _ _ _ _ _ _ _ _ _ _ _ _ _ _ _ _ _ _ _ _ _ _ _ _ _ _ _ _ _ _ _ _ _ (Bs ++ [(x, (.slice (some ⟨G2, 0, none⟩) cs.length cap2, cs))]) _ (kk + cs.length) _ hlt HK5.out (by simp; exact HK2'.out) (by rw [List.map_append, doneF_add]; rw [List.length_map] at hJ5; exact hJ5) (HAD.out HD.out _ cs HAC.out)
    · rw [hd] at hlk
      have HD := Lib.hid hd; clear hd
      go_wp2_with fail
      exact HN.out _ _ _ _ _ _ _ _ _ _ _ _ _ _ _ _ _ _ _ _ _ _ _ _ _ _ _ _ _ _ _ _ _ _ _ _ _ _ _ _ _ _ _ _ _ _ _ _ _ _ _ _ _ _ _ _ _ _ _ _ _ _ _ _ _ _ Bs vo kk _ hlt HK1.out HK2.out HI1.out (HSK.out HD.out)
  · obtain rfl : i = P.length := by omega
    clear hI hS
    go_wp2
    exact HX.out _ _ _ _ _ _ _ _ _ _ _ _ _ _ _ _ _ _ _ _ _ _ _ _ _ _ _ _ _ _ _ _ _ _ _ _ _ _ _ _ _ _ _ _ _ _ _ _ _ _ _ _ _ _ _ _ _ _ _ _ _ _ _ _ _ _ trivial
end Go.Proofs.YtclpljbllnhhbaaGreat
