/- Maps keyed by cells: a range over them. Contract: the areas: the places. -/
import Derived.Maps.RangeWalk
import Derived.Deep.LoopGhost
import Derived.Test.YtjimdnmdnjhnjaaGreatDoorZgFaM
import Derived.Test.YtjimdnmdnjhnjaaGreatDoorZgFaX
namespace Go.Proofs.YtjimdnmdnjhnjaaGreatDoor
open Go.RowKit Go.Maps Go.WideMaps

theorem agg2_of {cs : Array Value} (h : cs.size = 2) : ∃ a b, cs = #[a, b] := by
  obtain ⟨l⟩ := cs
  match l, h with
  | [a, b], _ => exact ⟨a, b, rfl⟩
theorem wf_w64 {x : Int} (h : (Lit.int .i64 x).wf = true) : W64 x := by
  unfold W64
  have h1 : IntKind.i64.min = -9223372036854775808 := by decide
  have h2 : IntKind.i64.max = 9223372036854775807 := by decide
  simp [Lit.wf, h1, h2] at h
  exact h
theorem keyLits_one {d : Nat} {a : Value} {ls : List Lit} (h : Tryz.prog.keyLits (d + 1) 3 [a] = some ls) : ∃ x, a = .int .i64 x ∧ W64 x ∧ ls = [.int .i64 x] := by
  unfold Program.keyLits at h
  simp only [Tryz.underlying3] at h
  cases a <;> simp at h
  obtain ⟨⟨rfl, hw⟩, rfl⟩ := h
  exact ⟨_, rfl, wf_w64 hw, rfl⟩
theorem key_inv {key : Value} {l : Lit} (h : keyOf Tryz.prog 62 key = some l) : ∃ r c, key = cellV r c ∧ W64 r ∧ W64 c ∧ l = kl r c := by
  unfold keyOf at h
  simp only [arr2.hu] at h
  split at h
  · rename_i hc
    rw [Bool.and_eq_true] at hc
    obtain ⟨_, hf⟩ := hc
    cases key with
    | agg cs =>
      have hs : cs.size = 2 := by simpa [Value.formed, arr2.hu, arr2.size] using hf
      obtain ⟨a, b, rfl⟩ := agg2_of hs
      obtain ⟨m, hm⟩ := sizePos
      rw [hm] at h
      unfold Program.keyLits at h
      simp only [arr2.hu, Value.cells] at h
      rw [if_pos (by rw [arr2.size]; rfl), show List.range 2 = [0, 1] from rfl, List.mapM_cons, List.mapM_cons, List.mapM_nil] at h
      simp only [arr2.one, Nat.zero_mul, Nat.one_mul, List.drop_zero, List.drop_succ_cons, List.take_succ_cons, List.take_zero] at h
      rcases h1 : Tryz.prog.keyLits (m + 1) 3 [a] with _ | la
      · simp [h1] at h
      · rcases h2 : Tryz.prog.keyLits (m + 1) 3 [b] with _ | lb
        · simp [h1, h2] at h
        · obtain ⟨x, rfl, wx, rfl⟩ := keyLits_one h1
          obtain ⟨y, rfl, wy, rfl⟩ := keyLits_one h2
          simp [h1, h2] at h
          exact ⟨x, y, rfl, wx, wy, h.symm⟩
    | _ => simp [Value.formed, arr2.hu] at hf
  · cases h

/-- A range over a map of cells under way: left: what is still to come. -/
def FRg (w : World) (b r n : Nat) (g : Int → Int → Int) (left : Int → Int → Bool) (cnt : Nat) : Prop :=
  ∃ (D : DataW Unit) (lf : Lit → Bool), w.ranges Tryz.prog 62 (plainElem Tryz.prog 3) b r n D lf cnt ∧ (∀ r c, W64 r → W64 c → Maps.has D (kl r c) = decide (0 ≤ g r c) ∧ D.atKey (kl r c) (.lit (.int .i64 0)) = .lit (.int .i64 (pos (g r c)))) ∧ ∀ x y, W64 x → W64 y → lf (kl x y) = left x y
section
variable {w w' : World} {b r n cnt : Nat} {g : Int → Int → Int} {left : Int → Int → Bool}
theorem FRg.fmap (h : FRg w b r n g left cnt) : FMap w b n g := let ⟨D, _, h, k, _⟩ := h; ⟨D, h.owns, k⟩
theorem FRg.lt (h : FRg w b r n g left cnt) : r < w.heap.size := let ⟨_, _, h, _⟩ := h; h.lt
theorem FRg.kept {row : Option Nat} (h : FRg w b r n g left cnt) (hg : w.grownBy w' row) (hb : some b ≠ row) (hr : some r ≠ row) : FRg w' b r n g left cnt := let ⟨D, lf, h, k⟩ := h; ⟨D, lf, h.kept hg hb hr, k⟩
theorem FRg.alloc (h : FRg w b r n g left cnt) (o : Obj) : FRg (w.alloc o) b r n g left cnt := let ⟨D, lf, h, k⟩ := h; ⟨D, lf, h.alloc o, k⟩
theorem FRg.below {B : Nat} (h : FRg w b r n g left cnt) (hb : Below B w w') (h1 : b < B) (h2 : r < B) : FRg w' b r n g left cnt := by
  obtain ⟨D, lf, ⟨es, clock, since, seen, c0, k1, k2, k3, k4, k5, k6⟩, k⟩ := h
  exact ⟨D, lf, ⟨es, clock, since, seen, c0, (hb.block b h1).trans k1, k2, k3, k4, (hb.block r h2).trans k5, k6⟩, k⟩
theorem FRg.gr (h : FRg w b r n g left cnt) (hb : Gr w w') : FRg w' b r n g left cnt := h.below hb h.fmap.lt h.lt
theorem FMap.range (h : FMap w b n g) {t : TypeId} (ht : Tryz.prog.underlying t = some (.map 62 3)) :
    ∃ w' cnt, (Instr.range t (.map (some b))).run Tryz.prog w = .ok (.pointer (some ⟨w.heap.size, 0, none⟩)) w' ∧ FRg w' b w.heap.size n g (fun x y => decide (0 ≤ g x y)) cnt ∧ w.grownBy w' none ∧ w'.heap.size = w.heap.size + 1 := by
  obtain ⟨D, h, k⟩ := h
  obtain ⟨w', hrun, r1, r2, r3⟩ := h.range cellLaw ht
  exact ⟨w', _, hrun, ⟨D, _, r1, k, fun x y hx hy => (k x y hx hy).1⟩, r2, r3⟩
theorem strike_cell {x y a c : Int} (hx : W64 x) (hy : W64 y) (ha : W64 a) (hc : W64 c) : (kl a c).sameKey (kl x y) = decide (a = x ∧ c = y) := by
  by_cases e : a = x ∧ c = y
  · obtain ⟨rfl, rfl⟩ := e
    simp [WideAt.sameKey_self (kl_key a c)]
  · rw [Maps.sameKey_ne (fun h => e (kl_inj ha hc hx hy h))]
    simp [e]
theorem FRg.next (h : FRg w b r n g left cnt) (ty : TypeId) :
    (cnt = 0 ∧ (∀ x y, W64 x → W64 y → left x y = false) ∧ (Instr.next (.pointer (some ⟨r, 0, none⟩)) false ty).run Tryz.prog w = .ok (.tuple #[.bool false]) w) ∨
    ∃ x y v w' cnt', W64 x ∧ W64 y ∧ left x y = true ∧ (Instr.next (.pointer (some ⟨r, 0, none⟩)) false ty).run Tryz.prog w = .ok (.tuple #[.bool true, cellV x y, .int .i64 v]) w' ∧
      FRg w' b r n g (fun a c => left a c && !decide (a = x ∧ c = y)) cnt' ∧ cnt' < cnt ∧ w.grownBy w' (some r) ∧ w'.heap.size = w.heap.size ∧ (Instr.entry (.pointer (some ⟨r, 0, none⟩))).run Tryz.prog w' = .ok (.tuple #[cellV x y, .int .i64 v]) w' := by
  obtain ⟨D, lf, h, k, kf⟩ := h
  rcases h.next cellLaw ty with ⟨h0, hl, hrun⟩ | ⟨key, v, l, z, w', cnt', hkey, hlk, hv, hat, hrun, hrg, hlt, hgr, hsz, hen⟩
  · exact .inl ⟨h0, fun x y hx hy => by rw [← kf x y hx hy]; exact hl _, hrun⟩
  · obtain ⟨x, y, rfl, hx, hy, rfl⟩ := key_inv hkey
    obtain ⟨a, rfl, _⟩ := plainElem_int_inv Tryz.underlying3 hv
    refine .inr ⟨x, y, a, w', cnt', hx, hy, by rw [← kf x y hx hy]; exact hlk, hrun, ⟨D, _, hrg, k, fun p q hp hq => ?_⟩, hlt, hgr, hsz, hen⟩
    rw [kf p q hp hq, strike_cell hx hy hp hq]
end
end Go.Proofs.YtjimdnmdnjhnjaaGreatDoor

namespace Go.Proofs.YtjimdnmdnjhnjaaGreatDoor
open Go.RowKit Go.Shelf

attribute [local go_sem] Oper.semAt_some
attribute [local irreducible] nbV

theorem FRg.ncells {W : World} {b r n cnt : Nat} {g : Int → Int → Int} {left : Int → Int → Bool} (h : FRg W b r n g left cnt) : ∃ o, W.heap[r]? = some o ∧ o.isCells = false := by
  obtain ⟨_, _, ⟨_, _, _, _, _, _, _, _, _, k5, _⟩, _⟩ := h
  exact ⟨_, k5, rfl⟩
/-- The memory of the loop that gathers the places. -/
structure PlM (w : World) (b r n : Nat) (g : Int → Int → Int) (level : Int) (corners : Bool) (left : Int → Int → Bool) (cnt : Nat) (k : Nat) (xs : List Value) (v : Value) (W : World) : Prop where
  b3 : Blk W w.heap.size 41 #[.int .i64 level, .bool corners]
  rg : FRg W b r n g left cnt
  row : W.ownsRow w.heap.size 62 2 v k xs
  below : Below w.heap.size w W
  hr : w.heap.size ≤ r
/-- What is in the places, and what is still to come. -/
structure PlP (g : Int → Int → Int) (level : Int) (left : Int → Int → Bool) (P : List (Int × Int)) : Prop where
  nodup : P.Nodup
  mem : ∀ x ∈ P, W64 x.1 ∧ W64 x.2 ∧ abv g x.1 x.2 level = true ∧ left x.1 x.2 = false
  all : ∀ x y, W64 x → W64 y → abv g x y level = true → left x y = false → (x, y) ∈ P
section
variable {w W W' : World} {b r n cnt cnt' k : Nat} {g : Int → Int → Int} {level : Int} {corners : Bool} {left left' : Int → Int → Bool} {P : List (Int × Int)} {xs : List Value} {v : Value}
theorem PlM.gr (h : PlM w b r n g level corners left cnt k xs v W) (hk : Gr W W') : PlM w b r n g level corners left cnt k xs v W' :=
  ⟨h.b3.gr hk, h.rg.gr hk, own_below h.row hk, h.below.trans (Below.mono hk (Below.size h.below)), h.hr⟩
theorem PlM.alloc (h : PlM w b r n g level corners left cnt k xs v W) (o : Obj) : PlM w b r n g level corners left cnt k xs v (W.alloc o) := h.gr ((Below.refl _ _).alloc (Nat.le_refl _) _)
/-- A step of the range. -/
theorem PlM.step (h : PlM w b r n g level corners left cnt k xs v W) (hg : W.grownBy W' (some r)) (hr' : FRg W' b r n g left' cnt') : PlM w b r n g level corners left' cnt' k xs v W' := by
  obtain ⟨o, ho, hc⟩ := h.rg.ncells
  have n3 : some w.heap.size ≠ some r := fun e => by
    obtain ⟨o', ho', hc', _⟩ := h.b3.iscells
    exact ne_of_cells ho' hc' ho hc (Option.some.inj e)
  have nr : v.ownBlock = none ∨ v.ownBlock ≠ some r := by
    rcases hv : v.ownBlock with _ | G
    · exact .inl rfl
    · refine .inr fun e => ?_
      obtain ⟨_, o', ho', hc', _⟩ := own_iscells h.row hv
      exact ne_of_cells ho' hc' ho hc (Option.some.inj e)
  exact ⟨h.b3.grown hg n3, hr', h.row.kept hg nr, h.below.grown hg (Below.size h.below) (fun k e => by cases e; exact h.hr), h.hr⟩
theorem PlM.append (h : PlM w b r n g level corners left cnt k xs v W) {k' : Nat} {xs' : List Value} {v' : Value} (hg : W.grownBy W' v.ownBlock) (row' : W'.ownsRow w.heap.size 62 2 v' k' xs') : PlM w b r n g level corners left cnt k' xs' v' W' := by
  refine ⟨h.b3.grown hg (fun e => own_blk_ne h.row h.b3 (by decide) e.symm), h.rg.kept hg (fun e => ?_) (fun e => ?_), row', h.below.grown hg (Below.size h.below) (fun r e => (own_iscells h.row e).1), h.hr⟩
  · obtain ⟨_, o, ho, hc, _⟩ := own_iscells h.row e.symm
    obtain ⟨o', ho', hc', _⟩ := h.rg.fmap.ncells
    exact ne_of_cells ho hc ho' hc' rfl
  · obtain ⟨_, o, ho, hc, _⟩ := own_iscells h.row e.symm
    obtain ⟨o', ho', hc'⟩ := h.rg.ncells
    exact ne_of_cells ho hc ho' hc' rfl
abbrev strikeL (left : Int → Int → Bool) (x y : Int) : Int → Int → Bool := fun a c => left a c && !decide (a = x ∧ c = y)
theorem PlP.not (h : PlP g level left P) {x y : Int} (ha : abv g x y level = false) : PlP g level (strikeL left x y) P := by
  refine ⟨h.nodup, fun z hz => ?_, fun a c wa wc hac hlf => ?_⟩
  · obtain ⟨z1, z2, z3, z4⟩ := h.mem z hz
    exact ⟨z1, z2, z3, by unfold strikeL; rw [z4]; rfl⟩
  · unfold strikeL at hlf
    rw [Bool.and_eq_false_iff] at hlf
    rcases hlf with h1 | h1
    · exact h.all a c wa wc hac h1
    · have : a = x ∧ c = y := by simpa using h1
      obtain ⟨rfl, rfl⟩ := this
      rw [ha] at hac; cases hac
theorem PlP.add (h : PlP g level left P) {x y : Int} (hx : W64 x) (hy : W64 y) (hl : left x y = true) (ha : abv g x y level = true) : PlP g level (strikeL left x y) (P ++ [(x, y)]) := by
  have hnot : (x, y) ∉ P := fun hm => by
    have := (h.mem _ hm).2.2.2
    rw [hl] at this; cases this
  refine ⟨?_, fun z hz => ?_, fun a c wa wc hac hlf => ?_⟩
  · rw [List.nodup_append]
    exact ⟨h.nodup, by simp, fun a ha b hb => by simp at hb; subst hb; exact fun e => hnot (e ▸ ha)⟩
  · rcases List.mem_append.1 hz with hz | hz
    · obtain ⟨z1, z2, z3, z4⟩ := h.mem z hz
      exact ⟨z1, z2, z3, by unfold strikeL; rw [z4]; rfl⟩
    · simp at hz; subst hz
      exact ⟨hx, hy, ha, by simp [strikeL]⟩
  · unfold strikeL at hlf
    rw [Bool.and_eq_false_iff] at hlf
    rcases hlf with h1 | h1
    · exact List.mem_append_left _ (h.all a c wa wc hac h1)
    · have : a = x ∧ c = y := by simpa using h1
      obtain ⟨rfl, rfl⟩ := this
      simp
theorem PlP.count {left : Int → Int → Bool} {P : List (Int × Int)} (h : PlP g level left P) (hM : FMap W b n g) : P.length ≤ n := hM.count h.nodup (fun x hx => by
  obtain ⟨z1, z2, z3, _⟩ := h.mem x hx
  exact ⟨((abv_iff _ _ _ _).1 z3).1, z1, z2⟩)
end

set_option maxRecDepth 100000 in
set_option maxHeartbeats 4000000 in
theorem places_round (b r n : Nat) (g : Int → Int → Int) (level : Int) (corners : Bool) (w : World) (hn : n ≤ 100000) (left : Int → Int → Bool) (cnt : Nat) (P : List (Int × Int)) (v : Value) (wr : World)
    (hI : PlM w b r n g level corners left cnt P.length (cellsC P) v wr) (hP : PlP g level left P)
    (K' : Act → World → Prop) (Q' : Exit → Act → World → Prop) {t0 t1 t2 t4 t5 t7 t9 t10 t11 t12 t13 t14 t15 t16 t17 t18 t19 t20 t21 t22 t23 t24 t25 t26 t28 t29 t30 t31 t32 t33 t34 t35 t36 t37 t38 t39 t40 t41 t42 t43 t44 t45 t46 t47 t48 t49 t50 t51 t52 t53 t54 t55 t56 t57 t58 t59 t60 t61 t62 t63 t64 t65 t66 t67 t68 t69 t70 t71 t72 : Value}
    (hnext : ∀ (t0 t1 t2 t4 t5 t7 t9 t10 t11 t12 t13 t14 t15 t16 t17 t18 t19 t20 t21 t22 t23 t24 t25 t26 t28 t29 t30 t31 t32 t33 t34 t35 t36 t37 t38 t39 t40 t41 t42 t43 t44 t45 t46 t47 t48 t49 t50 t51 t52 t53 t54 t55 t56 t57 t58 t59 t60 t61 t62 t63 t64 t65 t66 t67 t68 t69 t70 t71 t72 : Value) (left' : Int → Int → Bool) (cnt' : Nat) (P : List (Int × Int)) (v : Value) (wr : World), cnt' < cnt → PlM w b r n g level corners left' cnt' P.length (cellsC P) v wr → PlP g level left' P → K' ⟨#[t0, t1, t2, .pointer (some ⟨w.heap.size, 0, none⟩), t4, t5, .map (some b), t7, v, t9, t10, t11, t12, t13, t14, t15, t16, t17, t18, t19, t20, t21, t22, t23, t24, t25, t26, .pointer (some ⟨r, 0, none⟩), t28, t29, t30, t31, t32, t33, t34, t35, t36, t37, t38, t39, t40, t41, t42, t43, t44, t45, t46, t47, t48, t49, t50, t51, t52, t53, t54, t55, t56, t57, t58, t59, t60, t61, t62, t63, t64, t65, t66, t67, t68, t69, t70, t71, t72], []⟩ wr)
    (hexit : ∀ (t0 t1 t2 t4 t5 t7 t9 t10 t11 t12 t13 t14 t15 t16 t17 t18 t19 t20 t21 t22 t23 t24 t25 t26 t28 t29 t30 t31 t32 t33 t34 t35 t36 t37 t38 t39 t40 t41 t42 t43 t44 t45 t46 t47 t48 t49 t50 t51 t52 t53 t54 t55 t56 t57 t58 t59 t60 t61 t62 t63 t64 t65 t66 t67 t68 t69 t70 t71 t72 : Value), (∀ x y, W64 x → W64 y → left x y = false) → Q' (.exit 0) ⟨#[t0, t1, t2, .pointer (some ⟨w.heap.size, 0, none⟩), t4, t5, .map (some b), t7, v, t9, t10, t11, t12, t13, t14, t15, t16, t17, t18, t19, t20, t21, t22, t23, t24, t25, t26, .pointer (some ⟨r, 0, none⟩), t28, t29, t30, t31, t32, t33, t34, t35, t36, t37, t38, t39, t40, t41, t42, t43, t44, t45, t46, t47, t48, t49, t50, t51, t52, t53, t54, t55, t56, t57, t58, t59, t60, t61, t62, t63, t64, t65, t66, t67, t68, t69, t70, t71, t72], []⟩ wr) :
    (bodyOf Tryz.f10 0).wp Tryz.prog (Exit.then K' Q') ⟨#[t0, t1, t2, .pointer (some ⟨w.heap.size, 0, none⟩), t4, t5, .map (some b), t7, v, t9, t10, t11, t12, t13, t14, t15, t16, t17, t18, t19, t20, t21, t22, t23, t24, t25, t26, .pointer (some ⟨r, 0, none⟩), t28, t29, t30, t31, t32, t33, t34, t35, t36, t37, t38, t39, t40, t41, t42, t43, t44, t45, t46, t47, t48, t49, t50, t51, t52, t53, t54, t55, t56, t57, t58, t59, t60, t61, t62, t63, t64, t65, t66, t67, t68, t69, t70, t71, t72], []⟩ wr := by
  have HN := Lib.hid hnext; have HX := Lib.hid hexit
  clear hnext hexit
  conv in (bodyOf _ _) => whnf
  rcases hI.rg.next 0 with ⟨h0, hl, hrun⟩ | ⟨x, y, val, w1, cnt', wx, wy, hl, hrun, hr1, hlt, hg1, hsz, hen⟩
  · have HL := Lib.hid hl
    clear hl h0 hI hP
    go_wp2
    exact HX.out _ _ _ _ _ _ _ _ _ _ _ _ _ _ _ _ _ _ _ _ _ _ _ _ _ _ _ _ _ _ _ _ _ _ _ _ _ _ _ _ _ _ _ _ _ _ _ _ _ _ _ _ _ _ _ _ _ _ _ _ _ _ _ _ _ _ _ _ _ HL.out
  · have hJ1 := hI.step hg1 hr1
    have HP := Lib.hid hP
    have HLT := Lib.hid hlt; have HLL := Lib.hid hl
    have e3 := hJ1.b3; have l3 := e3.lt
    obtain ⟨c30, c31, _⟩ := blk2c e3
    clear hP hI hg1 hr1 hlt hl hsz
    have hFM := (hJ1.alloc (.cells #[.int .i64 x, .int .i64 y] 62)).rg.fmap
    have HJ2 := Lib.hid (hJ1.alloc (.cells #[.int .i64 x, .int .i64 y] 62))
    have bx := Blk.new w1 62 #[.int .i64 x, .int .i64 y]
    clear hJ1
    cases hab : abv g x y level
    · have HAB := Lib.hid hab
      clear hab
      go_wp2_with (go_at_call 33; refine (above_any b n g x y level _ hFM wx wy).mono ?_; rintro e w2 ⟨rfl, hB2⟩; rw [HAB.out])
      exact HN.out _ _ _ _ _ _ _ _ _ _ _ _ _ _ _ _ _ _ _ _ _ _ _ _ _ _ _ _ _ _ _ _ _ _ _ _ _ _ _ _ _ _ _ _ _ _ _ _ _ _ _ _ _ _ _ _ _ _ _ _ _ _ _ _ _ _ _ _ _ _ cnt' P v _ HLT.out (HJ2.out.gr hB2) (HP.out.not HAB.out)
    · have HAB := Lib.hid hab
      clear hab
      have hcount := HP.out.count hFM
      obtain ⟨i0, hi, hz0, hz1, hz2⟩ := info_parts infoCell
      go_wp2_with (first
        | (go_at_call 33; refine (above_any b n g x y level _ hFM wx wy).mono ?_; rintro e w2 ⟨rfl, hB2⟩; rw [HAB.out]; have bx2 := bx.gr hB2; have lx2 := bx2.lt; obtain ⟨cx0, cx1, _⟩ := blk2c bx2; have hJ3 := HJ2.out.gr hB2)
        | (at_builtin; refine wpList_append_own _ rfl _ _ 61 rfl w.heap.size 62 i0 (.agg #[.int .i64 0, .int .i64 0]) 2 16 Tryz.underlying61 hi hz0 hz1 hz2 rfl (by decide) _ _ _ rfl (hJ3.row.alloc _) ⟨w2.heap.size, 0, none⟩ 1 1 [.int .i64 x, .int .i64 y] rfl rfl (cell_two_new _ _ _ _) (by simp [Value.oneCell']) (by unfold maxLen; omega) (by omega) (by have := Below.size hJ3.below; simp; omega) ?_; intro v2 W5 hown' hgrow _; obtain ⟨g5, cap5, rfl⟩ := ownsRow_succ hown'; have hJ5 := (hJ3.alloc (.cells #[.int .i64 x, .int .i64 y] 62)).append hgrow hown'))
      have e1 : (P ++ [(x, y)]).length = P.length + 1 := by simp
      have e2 := cellsC_snoc P (x, y)
      exact HN.out _ _ _ _ _ _ _ _ _ _ _ _ _ _ _ _ _ _ _ _ _ _ _ _ _ _ _ _ _ _ _ _ _ _ _ _ _ _ _ _ _ _ _ _ _ _ _ _ _ _ _ _ _ _ _ _ _ _ _ _ _ _ _ _ _ _ _ _ _ _ cnt' (P ++ [(x, y)]) _ _ HLT.out (by rw [e1, e2]; exact hJ5) (HP.out.add wx wy HLL.out HAB.out)

set_option maxRecDepth 100000 in
set_option maxHeartbeats 4000000 in
theorem places_loop (b r n : Nat) (g : Int → Int → Int) (level : Int) (corners : Bool) (w : World) (hn : n ≤ 100000)
    (Q' : Exit → Act → World → Prop)
    (hexit : ∀ (t0 t1 t2 t4 t5 t7 t9 t10 t11 t12 t13 t14 t15 t16 t17 t18 t19 t20 t21 t22 t23 t24 t25 t26 t28 t29 t30 t31 t32 t33 t34 t35 t36 t37 t38 t39 t40 t41 t42 t43 t44 t45 t46 t47 t48 t49 t50 t51 t52 t53 t54 t55 t56 t57 t58 t59 t60 t61 t62 t63 t64 t65 t66 t67 t68 t69 t70 t71 t72 : Value) (P : List (Int × Int)) (v : Value) (left : Int → Int → Bool) (cnt : Nat) (wr : World), PlM w b r n g level corners left cnt P.length (cellsC P) v wr → PlP g level left P → (∀ x y, W64 x → W64 y → left x y = false) → Q' (.exit 0) ⟨#[t0, t1, t2, .pointer (some ⟨w.heap.size, 0, none⟩), t4, t5, .map (some b), t7, v, t9, t10, t11, t12, t13, t14, t15, t16, t17, t18, t19, t20, t21, t22, t23, t24, t25, t26, .pointer (some ⟨r, 0, none⟩), t28, t29, t30, t31, t32, t33, t34, t35, t36, t37, t38, t39, t40, t41, t42, t43, t44, t45, t46, t47, t48, t49, t50, t51, t52, t53, t54, t55, t56, t57, t58, t59, t60, t61, t62, t63, t64, t65, t66, t67, t68, t69, t70, t71, t72], []⟩ wr)
    {t0 t1 t2 t4 t5 t7 t9 t10 t11 t12 t13 t14 t15 t16 t17 t18 t19 t20 t21 t22 t23 t24 t25 t26 t28 t29 t30 t31 t32 t33 t34 t35 t36 t37 t38 t39 t40 t41 t42 t43 t44 t45 t46 t47 t48 t49 t50 t51 t52 t53 t54 t55 t56 t57 t58 t59 t60 t61 t62 t63 t64 t65 t66 t67 t68 t69 t70 t71 t72 : Value} (left : Int → Int → Bool) (cnt : Nat) (P : List (Int × Int)) (v : Value) (wr : World)
    (hI : PlM w b r n g level corners left cnt P.length (cellsC P) v wr) (hP : PlP g level left P) :
    (Code.loop (bodyOf Tryz.f10 0)).wp Tryz.prog Q' ⟨#[t0, t1, t2, .pointer (some ⟨w.heap.size, 0, none⟩), t4, t5, .map (some b), t7, v, t9, t10, t11, t12, t13, t14, t15, t16, t17, t18, t19, t20, t21, t22, t23, t24, t25, t26, .pointer (some ⟨r, 0, none⟩), t28, t29, t30, t31, t32, t33, t34, t35, t36, t37, t38, t39, t40, t41, t42, t43, t44, t45, t46, t47, t48, t49, t50, t51, t52, t53, t54, t55, t56, t57, t58, t59, t60, t61, t62, t63, t64, t65, t66, t67, t68, t69, t70, t71, t72], []⟩ wr := by
  refine wp_loop_ghost (fun m a' wr => ∃ (zf : Nat → Value) (left : Int → Int → Bool) (P : List (Int × Int)) (v : Value), a' = ⟨#[zf 0, zf 1, zf 2, .pointer (some ⟨w.heap.size, 0, none⟩), zf 4, zf 5, .map (some b), zf 7, v, zf 9, zf 10, zf 11, zf 12, zf 13, zf 14, zf 15, zf 16, zf 17, zf 18, zf 19, zf 20, zf 21, zf 22, zf 23, zf 24, zf 25, zf 26, .pointer (some ⟨r, 0, none⟩), zf 28, zf 29, zf 30, zf 31, zf 32, zf 33, zf 34, zf 35, zf 36, zf 37, zf 38, zf 39, zf 40, zf 41, zf 42, zf 43, zf 44, zf 45, zf 46, zf 47, zf 48, zf 49, zf 50, zf 51, zf 52, zf 53, zf 54, zf 55, zf 56, zf 57, zf 58, zf 59, zf 60, zf 61, zf 62, zf 63, zf 64, zf 65, zf 66, zf 67, zf 68, zf 69, zf 70, zf 71, zf 72], []⟩ ∧ PlM w b r n g level corners left m P.length (cellsC P) v wr ∧ PlP g level left P) cnt ⟨fun k => (#[t0, t1, t2, undef, t4, t5, undef, t7, undef, t9, t10, t11, t12, t13, t14, t15, t16, t17, t18, t19, t20, t21, t22, t23, t24, t25, t26, undef, t28, t29, t30, t31, t32, t33, t34, t35, t36, t37, t38, t39, t40, t41, t42, t43, t44, t45, t46, t47, t48, t49, t50, t51, t52, t53, t54, t55, t56, t57, t58, t59, t60, t61, t62, t63, t64, t65, t66, t67, t68, t69, t70, t71, t72] : Array Value).getD k undef, left, P, v, rfl, hI, hP⟩ ?_
  clear hI hP
  rintro m a' wr ⟨zf, left, P, v, rfl, hI, hP⟩
  refine places_round b r n g level corners w hn left m P v wr hI hP _ _ ?_ ?_
  · intro t0 t1 t2 t4 t5 t7 t9 t10 t11 t12 t13 t14 t15 t16 t17 t18 t19 t20 t21 t22 t23 t24 t25 t26 t28 t29 t30 t31 t32 t33 t34 t35 t36 t37 t38 t39 t40 t41 t42 t43 t44 t45 t46 t47 t48 t49 t50 t51 t52 t53 t54 t55 t56 t57 t58 t59 t60 t61 t62 t63 t64 t65 t66 t67 t68 t69 t70 t71 t72 left' cnt' P v wr hlt h1 h2
    exact ⟨cnt', hlt, fun k => (#[t0, t1, t2, undef, t4, t5, undef, t7, undef, t9, t10, t11, t12, t13, t14, t15, t16, t17, t18, t19, t20, t21, t22, t23, t24, t25, t26, undef, t28, t29, t30, t31, t32, t33, t34, t35, t36, t37, t38, t39, t40, t41, t42, t43, t44, t45, t46, t47, t48, t49, t50, t51, t52, t53, t54, t55, t56, t57, t58, t59, t60, t61, t62, t63, t64, t65, t66, t67, t68, t69, t70, t71, t72] : Array Value).getD k undef, left', P, v, rfl, h1, h2⟩
  · intro t0 t1 t2 t4 t5 t7 t9 t10 t11 t12 t13 t14 t15 t16 t17 t18 t19 t20 t21 t22 t23 t24 t25 t26 t28 t29 t30 t31 t32 t33 t34 t35 t36 t37 t38 t39 t40 t41 t42 t43 t44 t45 t46 t47 t48 t49 t50 t51 t52 t53 t54 t55 t56 t57 t58 t59 t60 t61 t62 t63 t64 t65 t66 t67 t68 t69 t70 t71 t72 h1
    exact hexit _ _ _ _ _ _ _ _ _ _ _ _ _ _ _ _ _ _ _ _ _ _ _ _ _ _ _ _ _ _ _ _ _ _ _ _ _ _ _ _ _ _ _ _ _ _ _ _ _ _ _ _ _ _ _ _ _ _ _ _ _ _ _ _ _ _ _ _ _ P v left m wr hI hP h1
end Go.Proofs.YtjimdnmdnjhnjaaGreatDoor
