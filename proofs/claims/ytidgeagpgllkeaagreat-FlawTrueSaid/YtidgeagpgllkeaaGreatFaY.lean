/- Maps keyed by cells: a range over them. -/
import Derived.Maps.RangeWalk
import Derived.Test.YtidgeagpgllkeaaGreatFaM
namespace Go.Proofs.YtidgeagpgllkeaaGreat
open Go.RowKit Go.Maps Go.WideMaps

theorem agg2_of {cs : Array Value} (h : cs.size = 2) : ∃ a b, cs = #[a, b] := by
  obtain ⟨l⟩ := cs
  match l, h with
  | [a, b], _ => exact ⟨a, b, rfl⟩
theorem wf_w64 {x : Int} (h : (Lit.int .i64 x).wf = true) : W64 x := by
  unfold W64
  have h1 : IntKind.i64.min = -9223372036854775808 := by decide
  have h2 : IntKind.i64.max = 9223372036854775807 := by decide
  simp [Lit.wf, h1, h2] at h
  exact h
theorem keyLits_one {d : Nat} {a : Value} {ls : List Lit} (h : Tryz.prog.keyLits (d + 1) 3 [a] = some ls) : ∃ x, a = .int .i64 x ∧ W64 x ∧ ls = [.int .i64 x] := by
  unfold Program.keyLits at h
  simp only [Tryz.underlying3] at h
  cases a <;> simp at h
  obtain ⟨⟨rfl, hw⟩, rfl⟩ := h
  exact ⟨_, rfl, wf_w64 hw, rfl⟩
theorem key_inv {key : Value} {l : Lit} (h : keyOf Tryz.prog 25 key = some l) : ∃ r c, key = cellV r c ∧ W64 r ∧ W64 c ∧ l = kl r c := by
  unfold keyOf at h
  simp only [arr2.hu] at h
  split at h
  · rename_i hc
    rw [Bool.and_eq_true] at hc
    obtain ⟨_, hf⟩ := hc
    cases key with
    | agg cs =>
      have hs : cs.size = 2 := by simpa [Value.formed, arr2.hu, arr2.size] using hf
      obtain ⟨a, b, rfl⟩ := agg2_of hs
      obtain ⟨m, hm⟩ := sizePos
      rw [hm] at h
      unfold Program.keyLits at h
      simp only [arr2.hu, Value.cells] at h
      rw [if_pos (by rw [arr2.size]; rfl), show List.range 2 = [0, 1] from rfl, List.mapM_cons, List.mapM_cons, List.mapM_nil] at h
      simp only [arr2.one, Nat.zero_mul, Nat.one_mul, List.drop_zero, List.drop_succ_cons, List.take_succ_cons, List.take_zero] at h
      rcases h1 : Tryz.prog.keyLits (m + 1) 3 [a] with _ | la
      · simp [h1] at h
      · rcases h2 : Tryz.prog.keyLits (m + 1) 3 [b] with _ | lb
        · simp [h1, h2] at h
        · obtain ⟨x, rfl, wx, rfl⟩ := keyLits_one h1
          obtain ⟨y, rfl, wy, rfl⟩ := keyLits_one h2
          simp [h1, h2] at h
          exact ⟨x, y, rfl, wx, wy, h.symm⟩
    | _ => simp [Value.formed, arr2.hu] at hf
  · cases h

/-- A range over a map of cells under way: left: what is still to come. -/
def FRg (w : World) (b r n : Nat) (g : Int → Int → Int) (left : Int → Int → Bool) (cnt : Nat) : Prop :=
  ∃ (D : DataW Unit) (lf : Lit → Bool), w.ranges Tryz.prog 25 (plainElem Tryz.prog 3) b r n D lf cnt ∧ (∀ r c, W64 r → W64 c → Maps.has D (kl r c) = decide (0 ≤ g r c) ∧ D.atKey (kl r c) (.lit (.int .i64 0)) = .lit (.int .i64 (pos (g r c)))) ∧ ∀ x y, W64 x → W64 y → lf (kl x y) = left x y
section
variable {w w' : World} {b r n cnt : Nat} {g : Int → Int → Int} {left : Int → Int → Bool}
theorem FRg.fmap (h : FRg w b r n g left cnt) : FMap w b n g := let ⟨D, _, h, k, _⟩ := h; ⟨D, h.owns, k⟩
theorem FRg.lt (h : FRg w b r n g left cnt) : r < w.heap.size := let ⟨_, _, h, _⟩ := h; h.lt
theorem FRg.kept {row : Option Nat} (h : FRg w b r n g left cnt) (hg : w.grownBy w' row) (hb : some b ≠ row) (hr : some r ≠ row) : FRg w' b r n g left cnt := let ⟨D, lf, h, k⟩ := h; ⟨D, lf, h.kept hg hb hr, k⟩
theorem FRg.alloc (h : FRg w b r n g left cnt) (o : Obj) : FRg (w.alloc o) b r n g left cnt := let ⟨D, lf, h, k⟩ := h; ⟨D, lf, h.alloc o, k⟩
theorem FRg.left_eq (h : FRg w b r n g left cnt) : w.rangeLeft b r = cnt := let ⟨_, _, h, _⟩ := h; h.left_eq
theorem FRg.below {B : Nat} (h : FRg w b r n g left cnt) (hb : Below B w w') (h1 : b < B) (h2 : r < B) : FRg w' b r n g left cnt := by
  obtain ⟨D, lf, ⟨es, clock, since, seen, c0, k1, k2, k3, k4, k5, k6⟩, k⟩ := h
  exact ⟨D, lf, ⟨es, clock, since, seen, c0, (hb.block b h1).trans k1, k2, k3, k4, (hb.block r h2).trans k5, k6⟩, k⟩
theorem FRg.gr (h : FRg w b r n g left cnt) (hb : Gr w w') : FRg w' b r n g left cnt := h.below hb h.fmap.lt h.lt
theorem FMap.range (h : FMap w b n g) {t : TypeId} (ht : Tryz.prog.underlying t = some (.map 25 3)) :
    ∃ w' cnt, (Instr.range t (.map (some b))).run Tryz.prog w = .ok (.pointer (some ⟨w.heap.size, 0, none⟩)) w' ∧ FRg w' b w.heap.size n g (fun x y => decide (0 ≤ g x y)) cnt ∧ w.grownBy w' none ∧ w'.heap.size = w.heap.size + 1 := by
  obtain ⟨D, h, k⟩ := h
  obtain ⟨w', hrun, r1, r2, r3⟩ := h.range cellLaw ht
  exact ⟨w', _, hrun, ⟨D, _, r1, k, fun x y hx hy => (k x y hx hy).1⟩, r2, r3⟩
theorem strike_cell {x y a c : Int} (hx : W64 x) (hy : W64 y) (ha : W64 a) (hc : W64 c) : (kl a c).sameKey (kl x y) = decide (a = x ∧ c = y) := by
  by_cases e : a = x ∧ c = y
  · obtain ⟨rfl, rfl⟩ := e
    simp [WideAt.sameKey_self (kl_key a c)]
  · rw [Maps.sameKey_ne (fun h => e (kl_inj ha hc hx hy h))]
    simp [e]
theorem FRg.next (h : FRg w b r n g left cnt) (ty : TypeId) :
    (cnt = 0 ∧ (∀ x y, W64 x → W64 y → left x y = false) ∧ (Instr.next (.pointer (some ⟨r, 0, none⟩)) false ty).run Tryz.prog w = .ok (.tuple #[.bool false]) w) ∨
    ∃ x y v w' cnt', W64 x ∧ W64 y ∧ left x y = true ∧ (Instr.next (.pointer (some ⟨r, 0, none⟩)) false ty).run Tryz.prog w = .ok (.tuple #[.bool true, cellV x y, .int .i64 v]) w' ∧
      FRg w' b r n g (fun a c => left a c && !decide (a = x ∧ c = y)) cnt' ∧ cnt' < cnt ∧ w.grownBy w' (some r) ∧ w'.heap.size = w.heap.size ∧ (Instr.entry (.pointer (some ⟨r, 0, none⟩))).run Tryz.prog w' = .ok (.tuple #[cellV x y, .int .i64 v]) w' := by
  obtain ⟨D, lf, h, k, kf⟩ := h
  rcases h.next cellLaw ty with ⟨h0, hl, hrun⟩ | ⟨key, v, l, z, w', cnt', hkey, hlk, hv, hat, hrun, hrg, hlt, hgr, hsz, hen⟩
  · exact .inl ⟨h0, fun x y hx hy => by rw [← kf x y hx hy]; exact hl _, hrun⟩
  · obtain ⟨x, y, rfl, hx, hy, rfl⟩ := key_inv hkey
    obtain ⟨a, rfl, _⟩ := plainElem_int_inv Tryz.underlying3 hv
    refine .inr ⟨x, y, a, w', cnt', hx, hy, by rw [← kf x y hx hy]; exact hlk, hrun, ⟨D, _, hrg, k, fun p q hp hq => ?_⟩, hlt, hgr, hsz, hen⟩
    rw [kf p q hp hq, strike_cell hx hy hp hq]
end
end Go.Proofs.YtidgeagpgllkeaaGreat
