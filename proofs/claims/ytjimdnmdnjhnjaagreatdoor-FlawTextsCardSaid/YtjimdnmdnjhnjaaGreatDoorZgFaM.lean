/- Maps keyed by cells: words for the walk. -/
import Derived.Maps.RangeWalk
import Derived.WideKeyPair
import Derived.WalkArith
import Derived.Test.YtjimdnmdnjhnjaaGreatDoorProg
import Derived.Test.YtjimdnmdnjhnjaaGreatDoorZgFaK
namespace Go.Proofs.YtjimdnmdnjhnjaaGreatDoor
open Go.RowKit Go.Maps Go.WideMaps

abbrev cellV (r c : Int) : Value := .agg #[.int .i64 r, .int .i64 c]
def W64 (x : Int) : Prop := -9223372036854775808 ≤ x ∧ x ≤ 9223372036854775807
theorem wf_of {x : Int} (h : W64 x) : (Lit.int .i64 x).wf = true := WalkArith.wf_i64 h
def kl (r c : Int) : Lit := .string (keyBytes [.int .i64 r, .int .i64 c])
theorem arr2 : ArrKey Tryz.prog 62 3 2 := ⟨Tryz.underlying62, by kernel_rfl, by kernel_rfl, by kernel_rfl⟩
theorem cellLaw : Keyed Tryz.prog 62 := Keyed.of_law arr2.law
theorem sizePos : ∃ m, Tryz.prog.types.size = m + 1 := ⟨Tryz.prog.types.size - 1, by kernel_rfl⟩
theorem key_cell {r c : Int} (hr : W64 r) (hc : W64 c) : keyOf Tryz.prog 62 (cellV r c) = some (kl r c) := keyOf_pair arr2 Tryz.underlying3 sizePos (wf_of hr) (wf_of hc)
theorem kl_inj {r c r' c' : Int} (hr : W64 r) (hc : W64 c) (hr' : W64 r') (hc' : W64 c') (h : kl r c = kl r' c') : r = r' ∧ c = c' := by
  have := cellLaw.inj (key_cell hr hc) ((key_cell hr' hc').trans (by rw [h]))
  simpa using this
theorem kl_key (r c : Int) : WideAt.IsKeyLit (kl r c) := trivial
theorem zeroInt_run (w : World) : (zeroValue 3).run Tryz.prog w = .ok (.int .i64 0) w := by kernel_rfl
theorem zeroBool_run (w : World) : (zeroValue 4).run Tryz.prog w = .ok (.bool false) w := by kernel_rfl

def pos (x : Int) : Int := if 0 ≤ x then x else 0
/-- A function at one more place. -/
def upd {α : Type} (g : Int → Int → α) (r c : Int) (v : α) : Int → Int → α := fun x y => if x = r ∧ y = c then v else g x y

/-- Block b is a map of at most n entries: at the cell (r, c) there is g r c, or nothing if this is below 0. -/
def FMap (w : World) (b n : Nat) (g : Int → Int → Int) : Prop :=
  ∃ D : DataW Unit, w.ownsMap Tryz.prog 62 (plainElem Tryz.prog 3) b n D ∧ ∀ r c, W64 r → W64 c → Maps.has D (kl r c) = decide (0 ≤ g r c) ∧ D.atKey (kl r c) (.lit (.int .i64 0)) = .lit (.int .i64 (pos (g r c)))
/-- The same, of bools. -/
def BMap (w : World) (b n : Nat) (g : Int → Int → Bool) : Prop :=
  ∃ D : DataW Unit, w.ownsMap Tryz.prog 62 (plainElem Tryz.prog 4) b n D ∧ ∀ r c, W64 r → W64 c → D.atKey (kl r c) (.lit (.bool false)) = .lit (.bool (g r c))

section
variable {w w' : World} {b n : Nat}
theorem FMap.lt {g : Int → Int → Int} (h : FMap w b n g) : b < w.heap.size := let ⟨_, h, _⟩ := h; h.lt
theorem BMap.lt {g : Int → Int → Bool} (h : BMap w b n g) : b < w.heap.size := let ⟨_, h, _⟩ := h; h.lt
theorem owns_below {H : Type} {P : Program} {k : TypeId} {R : Value → Option (DataW H × List MemPlace)} {D : DataW H} {B : Nat} (h : w.ownsMap P k R b n D) (hb : Below B w w') (hlt : b < B) : w'.ownsMap P k R b n D := by
  obtain ⟨es, clock, h1, h2⟩ := h
  exact ⟨es, clock, (hb.block b hlt).trans h1, h2⟩
theorem FMap.below {g : Int → Int → Int} {B : Nat} (h : FMap w b n g) (hb : Below B w w') (hlt : b < B) : FMap w' b n g := let ⟨D, h, k⟩ := h; ⟨D, owns_below h hb hlt, k⟩
theorem BMap.below {g : Int → Int → Bool} {B : Nat} (h : BMap w b n g) (hb : Below B w w') (hlt : b < B) : BMap w' b n g := let ⟨D, h, k⟩ := h; ⟨D, owns_below h hb hlt, k⟩
theorem FMap.gr {g : Int → Int → Int} (h : FMap w b n g) (hb : Gr w w') : FMap w' b n g := h.below hb h.lt
theorem BMap.gr {g : Int → Int → Bool} (h : BMap w b n g) (hb : Gr w w') : BMap w' b n g := h.below hb h.lt
theorem FMap.alloc {g : Int → Int → Int} (h : FMap w b n g) (o : Obj) : FMap (w.alloc o) b n g := let ⟨D, h, k⟩ := h; ⟨D, h.alloc o, k⟩
theorem BMap.alloc {g : Int → Int → Bool} (h : BMap w b n g) (o : Obj) : BMap (w.alloc o) b n g := let ⟨D, h, k⟩ := h; ⟨D, h.alloc o, k⟩
theorem owns_set {H : Type} {P : Program} {k : TypeId} {R : Value → Option (DataW H × List MemPlace)} {D : DataW H} (h : w.ownsMap P k R b n D) {a : Addr} (ha : b ≠ a.block) (u : Value) : (w.setCell a u).ownsMap P k R b n D := by
  obtain ⟨es, clock, hb, r⟩ := h
  exact ⟨es, clock, by rw [RowKit.Below.heap_setCell _ _ _ _ ha]; exact hb, r⟩
theorem FMap.setCell {g : Int → Int → Int} (h : FMap w b n g) {a : Addr} (ha : b ≠ a.block) (u : Value) : FMap (w.setCell a u) b n g := let ⟨D, h, k⟩ := h; ⟨D, owns_set h ha u, k⟩
theorem BMap.setCell {g : Int → Int → Bool} (h : BMap w b n g) {a : Addr} (ha : b ≠ a.block) (u : Value) : BMap (w.setCell a u) b n g := let ⟨D, h, k⟩ := h; ⟨D, owns_set h ha u, k⟩
theorem FMap.kept {g : Int → Int → Int} {row : Option Nat} (h : FMap w b n g) (hg : w.grownBy w' row) (hne : some b ≠ row) : FMap w' b n g := let ⟨D, h, k⟩ := h; ⟨D, h.kept hg hne, k⟩
theorem BMap.kept {g : Int → Int → Bool} {row : Option Nat} (h : BMap w b n g) (hg : w.grownBy w' row) (hne : some b ≠ row) : BMap w' b n g := let ⟨D, h, k⟩ := h; ⟨D, h.kept hg hne, k⟩
theorem FMap.mono {g : Int → Int → Int} (h : FMap w b n g) {n' : Nat} (hn : n ≤ n') : FMap w b n' g := let ⟨D, h, k⟩ := h; ⟨D, h.mono hn, k⟩
theorem BMap.mono {g : Int → Int → Bool} (h : BMap w b n g) {n' : Nat} (hn : n ≤ n') : BMap w b n' g := let ⟨D, h, k⟩ := h; ⟨D, h.mono hn, k⟩

theorem FMap.made (w : World) : FMap (w.alloc (.map #[] 0)) w.heap.size 0 (fun _ _ => -1) :=
  ⟨.map [], World.ownsMap_made _ _ _ _, fun _ _ _ _ => ⟨rfl, rfl⟩⟩
theorem BMap.made (w : World) : BMap (w.alloc (.map #[] 0)) w.heap.size 0 (fun _ _ => false) :=
  ⟨.map [], World.ownsMap_made _ _ _ _, fun _ _ _ _ => rfl⟩

theorem FMap.look_ok {g : Int → Int → Int} (h : FMap w b n g) {t : TypeId} (ht : Tryz.prog.underlying t = some (.map 62 3)) {r c : Int} (hr : W64 r) (hc : W64 c) :
    (Instr.lookup t (.map (some b)) (cellV r c) true).run Tryz.prog w = .ok (.tuple #[.int .i64 (pos (g r c)), .bool (decide (0 ≤ g r c))]) w := by
  obtain ⟨D, h, k⟩ := h
  obtain ⟨k1, k2⟩ := k r c hr hc
  obtain ⟨es, clock, hb, F, hs, hD⟩ := h
  have hown : w.ownsMap Tryz.prog 62 (plainElem Tryz.prog 3) b n D := ⟨es, clock, hb, F, hs, hD⟩
  obtain ⟨v, ps, hrun, hv⟩ := hown.look_ok cellLaw ht (zeroInt_run w) (plainElem_int Tryz.underlying3 (a := 0) (by decide)) (key_cell hr hc)
  obtain ⟨a, rfl, e, _⟩ := plainElem_int_inv Tryz.underlying3 hv
  rw [k2] at e
  have e' : pos (g r c) = a := (show pos (g r c) = a ∧ ps = [] by simpa using e).1
  rw [hrun, k1, e']
theorem FMap.look {g : Int → Int → Int} (h : FMap w b n g) {t : TypeId} (ht : Tryz.prog.underlying t = some (.map 62 3)) {r c : Int} (hr : W64 r) (hc : W64 c) :
    (Instr.lookup t (.map (some b)) (cellV r c) false).run Tryz.prog w = .ok (.int .i64 (pos (g r c))) w := by
  obtain ⟨D, h, k⟩ := h
  obtain ⟨k1, k2⟩ := k r c hr hc
  obtain ⟨v, ps, hrun, hv⟩ := h.lookup cellLaw ht (zeroInt_run w) (plainElem_int Tryz.underlying3 (a := 0) (by decide)) (key_cell hr hc)
  obtain ⟨a, rfl, e, _⟩ := plainElem_int_inv Tryz.underlying3 hv
  rw [k2] at e
  have e' : pos (g r c) = a := (show pos (g r c) = a ∧ ps = [] by simpa using e).1
  rw [hrun, e']
theorem plainElem_bool_inv {H : Type} {P : Program} {e : TypeId} (he : P.underlying e = some .bool) {v : Value} {z : DataW H × List MemPlace} (h : plainElem P e v = some z) : ∃ a, v = .bool a ∧ z = (.lit (.bool a), []) := by
  unfold plainElem at h
  rw [he] at h
  cases v <;> simp at h
  exact ⟨_, rfl, h.symm⟩
theorem BMap.look {g : Int → Int → Bool} (h : BMap w b n g) {t : TypeId} (ht : Tryz.prog.underlying t = some (.map 62 4)) {r c : Int} (hr : W64 r) (hc : W64 c) :
    (Instr.lookup t (.map (some b)) (cellV r c) false).run Tryz.prog w = .ok (.bool (g r c)) w := by
  obtain ⟨D, h, k⟩ := h
  have k2 := k r c hr hc
  obtain ⟨v, ps, hrun, hv⟩ := h.lookup cellLaw ht (zeroBool_run w) (plainElem_bool Tryz.underlying4 false) (key_cell hr hc)
  obtain ⟨a, rfl, e⟩ := plainElem_bool_inv Tryz.underlying4 hv
  rw [k2] at e
  have e' : g r c = a := (show g r c = a ∧ ps = [] by simpa using e).1
  rw [hrun, e']

theorem FMap.put {g : Int → Int → Int} (h : FMap w b n g) {t : TypeId} (ht : Tryz.prog.underlying t = some (.map 62 3)) (hn : n < maxLen) {r c v : Int} (hr : W64 r) (hc : W64 c) (hv : W64 v) (hv0 : 0 ≤ v) :
    ∃ w', (Instr.mapUpdate t (.map (some b)) (cellV r c) (.int .i64 v)).run Tryz.prog w = .ok () w' ∧ FMap w' b (n + 1) (upd g r c v) ∧ w.grownBy w' (some b) := by
  obtain ⟨D, h, k⟩ := h
  have hM : IsMap D := h.isMap
  obtain ⟨w', hrun, hown, hgr⟩ := h.update cellLaw ht hn (key_cell hr hc) (plainElem_int Tryz.underlying3 (wf_of hv))
  refine ⟨w', hrun, ⟨_, hown, fun x y hx hy => ?_⟩, hgr⟩
  by_cases e : x = r ∧ y = c
  · obtain ⟨rfl, rfl⟩ := e
    have eu : upd g x y v x y = v := by simp [upd]
    rw [has_put_same hM (kl_key _ _), atKey_put_same hM (kl_key _ _), eu]
    exact ⟨by simp [hv0], by simp [pos, hv0]⟩
  · have hne : kl x y ≠ kl r c := fun h => e (kl_inj hx hy hr hc h)
    have eu : upd g r c v x y = g x y := by unfold upd; rw [if_neg e]
    rw [has_put_other hne, atKey_put_other hne, eu]
    exact k x y hx hy
theorem BMap.put {g : Int → Int → Bool} (h : BMap w b n g) {t : TypeId} (ht : Tryz.prog.underlying t = some (.map 62 4)) (hn : n < maxLen) {r c : Int} (v : Bool) (hr : W64 r) (hc : W64 c) :
    ∃ w', (Instr.mapUpdate t (.map (some b)) (cellV r c) (.bool v)).run Tryz.prog w = .ok () w' ∧ BMap w' b (n + 1) (upd g r c v) ∧ w.grownBy w' (some b) := by
  obtain ⟨D, h, k⟩ := h
  have hM : IsMap D := h.isMap
  obtain ⟨w', hrun, hown, hgr⟩ := h.update cellLaw ht hn (key_cell hr hc) (plainElem_bool Tryz.underlying4 v)
  refine ⟨w', hrun, ⟨_, hown, fun x y hx hy => ?_⟩, hgr⟩
  by_cases e : x = r ∧ y = c
  · obtain ⟨rfl, rfl⟩ := e
    have eu : upd g x y v x y = v := by simp [upd]
    rw [atKey_put_same hM (kl_key _ _), eu]
  · have hne : kl x y ≠ kl r c := fun h => e (kl_inj hx hy hr hc h)
    have eu : upd g r c v x y = g x y := by unfold upd; rw [if_neg e]
    rw [atKey_put_other hne, eu]
    exact k x y hx hy
end

section
variable {w : World} {ops : Array Oper} {rest : List Oper} {o : Oper} {a : Act} {Q : Exit → Act → World → Prop} {b n : Nat}
/-- 'm[k] = v' at the operation. -/
theorem wpList_fput (hg : o.guard = none) (m x v : Operand) (t : TypeId) (hop : o.op = Op.mapUpdate t m x v) (ht : Tryz.prog.underlying t = some (.map 62 3)) (g : Int → Int → Int) (h : FMap w b n g) (hn : n < maxLen) (hm : a.eval m = .map (some b))
    (r c val : Int) (hx : a.eval x = cellV r c) (hv : a.eval v = .int .i64 val) (hr : W64 r) (hc : W64 c) (hval : W64 val) (h0 : 0 ≤ val)
    (hK : ∀ w', FMap w' b (n + 1) (upd g r c val) → w.grownBy w' (some b) → wpList Tryz.prog ops Q rest (a.put o.dst undef) w') : wpList Tryz.prog ops Q (o :: rest) a w := by
  refine wpList_plain hg fun K' hK' => ?_
  obtain ⟨w', hrun, r1, r2⟩ := h.put ht hn hr hc hval h0
  unfold Oper.wp
  simp [execOp, hop, hm, hx, hv, hrun, Result.andThen]
  exact hK' _ _ (hK w' r1 r2)
end
end Go.Proofs.YtjimdnmdnjhnjaaGreatDoor
