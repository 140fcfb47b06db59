/- The search for partners of the program: what has been tried, as a map; memory; plain words. The search for a partner of the program: plain words; the region that stores the partners. Contract: the search for a partner, in the program. Contracts: all partners (solve), the pairs. Contract: the pairs so far. What can be reached from marks without partner: memory, plain words, the region that goes on. Contract: what can be reached from a mark without partner. Contract: what can be reached from a mark without partner (the closure of cover). The loops of the cover. Contract: the cover with as many members as there are pairs. -/
import Derived.Test.YtidgeagpgllkeaaGreatZdFpG
import Derived.Test.YtidgeagpgllkeaaGreatZdFqA
import Derived.Test.YtidgeagpgllkeaaGreatZdFqB
import Derived.Test.YtidgeagpgllkeaaGreatZdFpL
namespace Go.Proofs.YtidgeagpgllkeaaGreat
open Go.RowKit Go.Shelf Go.Maps Go.WideMaps

theorem intLaw : Keyed Tryz.prog 3 := int_keyed Tryz.underlying3
theorem key_int {k : Int} (hk : W64 k) : keyOf Tryz.prog 3 (.int .i64 k) = some (.int .i64 k) := keyOf_int_mk Tryz.underlying3 (wf_of hk)
/-- Block b is a map of ints to bools, of at most n entries. -/
def IMap (w : World) (b n : Nat) (g : Int → Bool) : Prop :=
  ∃ D : DataW Unit, w.ownsMap Tryz.prog 3 (plainElem Tryz.prog 4) b n D ∧ ∀ k, W64 k → D.atKey (.int .i64 k) (.lit (.bool false)) = .lit (.bool (g k))
section
variable {w w' : World} {b n : Nat} {g : Int → Bool}
theorem IMap.lt (h : IMap w b n g) : b < w.heap.size := let ⟨_, h, _⟩ := h; h.lt
theorem IMap.below {B : Nat} (h : IMap w b n g) (hb : Below B w w') (hlt : b < B) : IMap w' b n g := let ⟨D, h, k⟩ := h; ⟨D, owns_below h hb hlt, k⟩
theorem IMap.gr (h : IMap w b n g) (hb : Gr w w') : IMap w' b n g := h.below hb h.lt
theorem IMap.setCell (h : IMap w b n g) {a : Addr} (ha : b ≠ a.block) (u : Value) : IMap (w.setCell a u) b n g := let ⟨D, h, k⟩ := h; ⟨D, owns_set h ha u, k⟩
theorem IMap.kept {row : Option Nat} (h : IMap w b n g) (hg : w.grownBy w' row) (hne : some b ≠ row) : IMap w' b n g := let ⟨D, h, k⟩ := h; ⟨D, h.kept hg hne, k⟩
theorem IMap.made (w : World) : IMap (w.alloc (.map #[] 0)) w.heap.size 0 (fun _ => false) :=
  ⟨.map [], World.ownsMap_made _ _ _ _, fun _ _ => rfl⟩
theorem IMap.ncells (h : IMap w b n g) : ∃ o, w.heap[b]? = some o ∧ o.isCells = false ∧ o ≠ Obj.deferred (some []) := let ⟨_, h, _⟩ := h; map_ncells h
theorem IMap.look (h : IMap w b n g) {t : TypeId} (ht : Tryz.prog.underlying t = some (.map 3 4)) {k : Int} (hk : W64 k) :
    (Instr.lookup t (.map (some b)) (.int .i64 k) false).run Tryz.prog w = .ok (.bool (g k)) w := by
  obtain ⟨D, h, kk⟩ := h
  have k2 := kk k hk
  obtain ⟨v, ps, hrun, hv⟩ := h.lookup intLaw ht (zeroBool_run w) (plainElem_bool Tryz.underlying4 false) (key_int hk)
  obtain ⟨a, rfl, e⟩ := plainElem_bool_inv Tryz.underlying4 hv
  rw [k2] at e
  have e' : g k = a := (show g k = a ∧ ps = [] by simpa using e).1
  rw [hrun, e']
theorem IMap.put (h : IMap w b n g) {t : TypeId} (ht : Tryz.prog.underlying t = some (.map 3 4)) (hn : n < maxLen) {k : Int} (v : Bool) (hk : W64 k) :
    ∃ w', (Instr.mapUpdate t (.map (some b)) (.int .i64 k) (.bool v)).run Tryz.prog w = .ok () w' ∧ IMap w' b (n + 1) (fun x => if x = k then v else g x) ∧ w.grownBy w' (some b) := by
  obtain ⟨D, h, kk⟩ := h
  have hM : IsMap D := h.isMap
  obtain ⟨w', hrun, hown, hgr⟩ := h.update intLaw ht hn (key_int hk) (plainElem_bool Tryz.underlying4 v)
  refine ⟨w', hrun, ⟨_, hown, fun x hx => ?_⟩, hgr⟩
  show _ = DataW.lit (Lit.bool (if x = k then v else g x))
  by_cases e : x = k
  · subst e
    have hkl : WideAt.IsKeyLit (Lit.int .i64 x) := trivial
    rw [atKey_put_same hM hkl, if_pos rfl]
  · have hne : Lit.int .i64 x ≠ Lit.int .i64 k := fun h => e (by injection h)
    rw [atKey_put_other hne, if_neg e]
    exact kk x hx
end
/-- What has been tried. -/
def sg (s : List Nat) : Int → Bool := fun k => decide (0 ≤ k ∧ k.toNat ∈ s)
theorem sg_add (s : List Nat) (k : Nat) : (fun x => if x = (k : Int) then true else sg s x) = sg (k :: s) := by
  funext x
  unfold sg
  by_cases e : x = (k : Int)
  · subst e; simp
  · rw [if_neg e]
    congr 1
    have h : 0 ≤ x → x.toNat ≠ k := fun h h2 => e (by omega)
    refine propext ⟨fun ⟨h1, h2⟩ => ⟨h1, List.mem_cons_of_mem _ h2⟩, fun ⟨h1, h2⟩ => ⟨h1, ?_⟩⟩
    rcases List.mem_cons.1 h2 with h3 | h3
    · exact absurd h3 (h h1)
    · exact h3
theorem sg_at (s : List Nat) (k : Nat) : sg s (k : Int) = decide (k ∈ s) := by unfold sg; simp
theorem sg_nil : sg [] = fun _ => false := by funext x; simp [sg]

/-- All but three blocks are as they were. -/
structure Fr3 (p0 p1 z : Nat) (w w' : World) : Prop where
  os : w'.os = w.os
  tape : w'.tape = w.tape
  output : w'.output = w.output
  size : w.heap.size ≤ w'.heap.size
  at_ : ∀ b, b < w.heap.size → b ≠ p0 → b ≠ p1 → b ≠ z → w'.heap[b]? = w.heap[b]?
section
variable {p0 p1 z : Nat} {w w' w'' : World}
theorem Fr3.refl (p0 p1 z : Nat) (w : World) : Fr3 p0 p1 z w w := ⟨rfl, rfl, rfl, Nat.le_refl _, fun _ _ _ _ _ => rfl⟩
theorem Fr3.trans (h : Fr3 p0 p1 z w w') (k : Fr3 p0 p1 z w' w'') : Fr3 p0 p1 z w w'' :=
  ⟨k.os.trans h.os, k.tape.trans h.tape, k.output.trans h.output, Nat.le_trans h.size k.size, fun b hb h0 h1 h2 => (k.at_ b (Nat.lt_of_lt_of_le hb h.size) h0 h1 h2).trans (h.at_ b hb h0 h1 h2)⟩
theorem Fr3.gr (h : Gr w w') : Fr3 p0 p1 z w w' := ⟨h.os, h.tape, h.output, h.size, fun b hb _ _ _ => h.block b hb⟩
/-- All that changes lies from B on, or is one of the three. -/
theorem Fr3.below {B : Nat} (h : Below B w w') (hB : B = w.heap.size) : Fr3 p0 p1 z w w' := ⟨h.os, h.tape, h.output, h.size, fun b hb _ _ _ => h.block b (by omega)⟩
theorem Fr3.set0 (w : World) (k : Nat) (u : Value) : Fr3 p0 p1 z w (w.setCell ⟨p0, k, none⟩ u) :=
  ⟨rfl, rfl, rfl, by simp, fun b _ h0 _ _ => Below.heap_setCell _ _ _ _ h0⟩
theorem Fr3.set1 (w : World) (k : Nat) (u : Value) : Fr3 p0 p1 z w (w.setCell ⟨p1, k, none⟩ u) :=
  ⟨rfl, rfl, rfl, by simp, fun b _ _ h1 _ => Below.heap_setCell _ _ _ _ h1⟩
theorem Fr3.grown (h : w.grownBy w' (some z)) : Fr3 p0 p1 z w w' := ⟨h.os, h.tape, h.output, h.size, fun b hb _ _ h2 => h.block b hb (fun e => h2 (Option.some.inj e))⟩
theorem Fr3.under {B : Nat} (h : Fr3 p0 p1 z w w') (h0 : B ≤ p0) (h1 : B ≤ p1) (h2 : B ≤ z) (hB : B ≤ w.heap.size) : Below B w w' :=
  ⟨h.os, h.tape, h.output, h.size, fun b hb => h.at_ b (by omega) (by omega) (by omega) (by omega)⟩
theorem Fr3.blk {g : Nat} {t : TypeId} {cs : Array Value} (h : Fr3 p0 p1 z w w') (hb : Blk w g t cs) (h0 : g ≠ p0) (h1 : g ≠ p1) (h2 : g ≠ z) : Blk w' g t cs := (h.at_ g hb.lt h0 h1 h2).trans hb
theorem Fr3.from_ {B : Nat} (h : Fr3 p0 p1 z w w') (h0 : p0 < B) (h1 : p1 < B) (h2 : z < B) : KeepsFrom B w w' :=
  ⟨h.size, fun k o hk ho _ => (h.at_ k (Array.getElem?_eq_some_iff.1 ho).1 (by omega) (by omega) (by omega)).trans ho⟩
/-- A row of one's own, where its block is as it was. -/
theorem own_at {base : Nat} {e : TypeId} {size n p m c : Nat} {xs : List Value} (ho : w.ownsRow base e size (.slice (some ⟨p, 0, none⟩) m c) n xs) (hb : w'.heap[p]? = w.heap[p]?) : w'.ownsRow base e size (.slice (some ⟨p, 0, none⟩) m c) n xs := by
  refine ⟨ho.1, ?_⟩
  rcases ho.2 with h0 | ⟨g, cap, cur, hv, hb2, hh, r⟩
  · exact .inl h0
  · obtain rfl : p = g := by injection hv with h1; injection h1 with h1; injection h1
    exact .inr ⟨p, cap, cur, hv, hb2, hb.trans hh, r⟩
end
section
variable {V W W' : World} {q p0 p1 n0 n1 z : Nat} {a0 a1 : Value} {slack : Int} {F0 F1 : List Int}
theorem MaM.at_ (h : MaM V q p0 p1 a0 a1 n0 n1 slack F0 F1 W) (hV : Below V.heap.size V W') (eq : W'.heap[q]? = W.heap[q]?) (e0 : W'.heap[p0]? = W.heap[p0]?) (e1 : W'.heap[p1]? = W.heap[p1]?) : MaM V q p0 p1 a0 a1 n0 n1 slack F0 F1 W' :=
  ⟨eq.trans h.box, ⟨own_at h.r0.own e0, hV⟩, ⟨own_at h.r1.own e1, hV⟩, h.ne, h.low⟩
theorem MaM.vsize (h : MaM V q p0 p1 a0 a1 n0 n1 slack F0 F1 W) : V.heap.size ≤ W.heap.size := Below.size h.r0.below
theorem MaM.under {B : Nat} (h : MaM V q p0 p1 a0 a1 n0 n1 slack F0 F1 W) (hb : Below B W W') (hq : q < B) (h0 : p0 < B) (h1 : p1 < B) : MaM V q p0 p1 a0 a1 n0 n1 slack F0 F1 W' :=
  h.at_ (h.r0.below.trans (hb.mono (by have := h.low; omega))) (hb.block q hq) (hb.block p0 h0) (hb.block p1 h1)
theorem MaM.grown (h : MaM V q p0 p1 a0 a1 n0 n1 slack F0 F1 W) (hg : W.grownBy W' (some z)) (hz : V.heap.size ≤ z) (hq : q ≠ z) (h0 : p0 ≠ z) (h1 : p1 ≠ z) : MaM V q p0 p1 a0 a1 n0 n1 slack F0 F1 W' :=
  h.at_ (h.r0.below.grown hg h.vsize (fun r e => by cases e; exact hz)) (hg.block q h.box.lt (fun e => hq (Option.some.inj e))) (hg.block p0 h.r0.lt (fun e => h0 (Option.some.inj e))) (hg.block p1 h.r1.lt (fun e => h1 (Option.some.inj e)))
theorem MaM.neq {g : Int → Bool} {n : Nat} (h : MaM V q p0 p1 a0 a1 n0 n1 slack F0 F1 W) (hm : IMap W z n g) : q ≠ z ∧ p0 ≠ z ∧ p1 ≠ z := by
  obtain ⟨o, ho, hc, _⟩ := hm.ncells
  have key : ∀ {b : Nat} {cs : Array Value} {t : TypeId}, Blk W b t cs → b ≠ z := fun hb e => by
    subst e
    rw [show W.heap[_]? = _ from hb] at ho
    cases ho; cases hc
  have key2 : ∀ {p m : Nat} {F : List Int}, LbM V p m F W → p ≠ z := fun hl e => by
    rcases hl.own.2 with ⟨h0, _⟩ | ⟨g, cap, cur, hv, _, hh, _⟩
    · cases h0
    · obtain rfl : _ = g := by injection hv with h1; injection h1 with h1; injection h1
      subst e
      rw [hh] at ho
      cases ho; cases hc
  exact ⟨key h.box, key2 h.r0, key2 h.r1⟩
end

section
variable {P : Program} {ops : Array Oper} {Q : Exit → Act → World → Prop} {md : Region.Mode} {n lr : Nat}
/-- A plain step without panic is one within a round. -/
theorem wpIn_of_wp {o : Oper} (hd : ∀ c, o.op ≠ .defer c) {a : Act} {w : World} {K : Act → World → Prop} (h : o.wp P a w K (NQ Q)) : o.wpIn (Fence.wide.inRound lr) n P a w K (NQ Q) := by
  unfold Oper.wp at h
  refine ⟨fun _ _ => trivial, ?_⟩
  rw [show (Fence.wide.inRound lr).round = some lr from rfl, Oper.semAt_some _ _ _ hd]
  generalize (execOp a.eval o).run P w = r at *
  cases r with
  | ok x w' =>
    cases x <;> simp only [Oper.upon, Oper.uponIn] at h ⊢
    case value u => exact h
    case skip => exact h
    case defer d => exact h
    case enter f args => exact ⟨fun h => (by cases h), CallsIn.inRound lr (callsIn_wide.2 h)⟩
    case row row args => exact ⟨fun h => (by cases h), fun c cs _ => let ⟨v, w', r, s⟩ := h c cs; ⟨v, w', r, stepsIn_wide.2 s⟩⟩
    all_goals exact h.elim
  | halt x w' => cases x <;> simp only [Oper.upon] at h <;> exact h.elim
theorem wpAnyIn_of_wpAny (hd : ∀ (i : Nat) (o : Oper), ops[i]? = some o → ∀ c, o.op ≠ .defer c) : ∀ (f : Nat) (listed : Array Bool) (a : Act) (w : World), wpAny P md ops (NQ Q) f listed a w → wpAnyIn (Fence.wide.inRound lr) n P md ops (NQ Q) f listed a w
  | 0, _, _, _, h => h
  | f + 1, _, _, _, h => ⟨h.1, fun i hi => by
    have h2 := h.2 i hi
    unfold wpOp at h2
    unfold wpOpIn
    cases ho : ops[i]? with
    | none => rw [ho] at h2; exact wpAnyIn_of_wpAny hd f _ _ _ h2
    | some o =>
      rw [ho] at h2
      simp only at h2 ⊢
      split
      · rename_i hw
        rw [if_pos hw] at h2
        rcases h2 with h2 | ⟨_, _, _, h2⟩
        · exact Oper.wpIn_mono (fun a w h => wpAnyIn_of_wpAny hd f _ a w h) (wpIn_of_wp (hd i o ho) h2)
        · exact h2.elim
      · rename_i hw
        rw [if_neg hw] at h2
        exact ⟨fun _ _ => trivial, wpAnyIn_of_wpAny hd f _ _ _ h2⟩⟩
def noDefer (l : List Oper) : Bool := l.all fun o => match o.op with
  | .defer _ => false
  | _ => true
theorem noDefer_at {l : List Oper} (h : noDefer l = true) (i : Nat) (o : Oper) (ho : l.toArray[i]? = some o) : ∀ c, o.op ≠ .defer c := fun c e => by
  have hm : o ∈ l := by
    rw [List.getElem?_toArray] at ho
    exact List.mem_of_getElem? ho
  have := List.all_eq_true.1 h o hm
  rw [e] at this
  cases this
/-- A region that draws its order, within a round. -/
theorem wpIn_region_r {id : Nat} {l : List Oper} {a : Act} {w : World} (S : World → Prop) (hm : P.follows .mixedOrders = true) (hd : noDefer l = true) (hS : S w.drew)
    (h : wpW P .any l.toArray (NQ Q) S l.length (Array.replicate l.length false) a w.drew) : (Code.region id l.toArray true).wpIn (Fence.wide.inRound lr) n P Q a w :=
  Code.wpIn_mono (Q := NQ Q) (fun e a w h => by cases e <;> first | exact h | exact h.elim) (wpIn_region_any (Q := NQ Q) hm (wpAnyIn_of_wpAny (noDefer_at hd) _ _ _ _ (by simpa using wpAny_of_wpW _ _ _ _ h hS)))
end
end Go.Proofs.YtidgeagpgllkeaaGreat

namespace Go.Proofs.YtidgeagpgllkeaaGreat
open Go.RowKit Go.Shelf

section
variable {rec : Nat → List Nat → Option Pth × List Nat} {R : Int → Int → Bool} {of : Nat → Int} {i x : Nat} {pre s0 s s' : List Nat} {p : Pth}
theorem augL_filter : ∀ (ks s : List Nat), augL rec R of i ks s = augL rec R of i (ks.filter (fun k => R i (k : Int))) s
  | [], _ => rfl
  | k :: ks, s => by
    cases hR : R i (k : Int)
    · rw [List.filter_cons, hR, if_neg (by simp), augL_skip (fun h => by rw [hR] at h; cases h.1)]
      exact augL_filter ks s
    · rw [List.filter_cons, hR, if_pos rfl]
      by_cases hs : k ∈ s
      · rw [augL_skip (fun h => h.2 hs), augL_skip (fun h => h.2 hs)]
        exact augL_filter ks s
      · by_cases ho : of k < 0
        · rw [augL_free ⟨hR, hs⟩ ho, augL_free ⟨hR, hs⟩ ho]
        · rw [augL_rec ⟨hR, hs⟩ ho, augL_rec ⟨hR, hs⟩ ho]
          obtain ⟨r, s1⟩ := rec (of k).toNat (k :: s)
          cases r with
          | some p => rfl
          | none => exact augL_filter ks s1
/-- Behind these there is left to do .. -/
def AugTo (rec : Nat → List Nat → Option Pth × List Nat) (R : Int → Int → Bool) (of : Nat → Int) (i : Nat) (pre s0 s : List Nat) : Prop := ∀ post, augL rec R of i (pre ++ post) s0 = augL rec R of i post s
/-- Within these there is an end. -/
def AugHit (rec : Nat → List Nat → Option Pth × List Nat) (R : Int → Int → Bool) (of : Nat → Int) (i : Nat) (pre s0 : List Nat) (r : Option Pth × List Nat) : Prop := ∀ post, augL rec R of i (pre ++ post) s0 = r
theorem AugTo.start (s : List Nat) : AugTo rec R of i [] s s := fun _ => rfl
theorem AugTo.skip (h : AugTo rec R of i pre s0 s) (hx : ¬ (R i x = true ∧ x ∉ s)) : AugTo rec R of i (pre ++ [x]) s0 s := fun post => by
  rw [List.append_assoc, h, List.singleton_append, augL_skip hx]
theorem AugTo.free (h : AugTo rec R of i pre s0 s) (hx : R i x = true ∧ x ∉ s) (ho : of x < 0) : AugHit rec R of i (pre ++ [x]) s0 (some [(i, x)], x :: s) := fun post => by
  rw [List.append_assoc, h, List.singleton_append, augL_free hx ho]
theorem AugTo.some_ (h : AugTo rec R of i pre s0 s) (hx : R i x = true ∧ x ∉ s) (ho : ¬ of x < 0) (e : rec (of x).toNat (x :: s) = (some p, s')) : AugHit rec R of i (pre ++ [x]) s0 (some ((i, x) :: p), s') := fun post => by
  rw [List.append_assoc, h, List.singleton_append, augL_rec hx ho, e]
theorem AugTo.none_ (h : AugTo rec R of i pre s0 s) (hx : R i x = true ∧ x ∉ s) (ho : ¬ of x < 0) (e : rec (of x).toNat (x :: s) = (none, s')) : AugTo rec R of i (pre ++ [x]) s0 s' := fun post => by
  rw [List.append_assoc, h, List.singleton_append, augL_rec hx ho, e]
theorem AugTo.all (h : AugTo rec R of i pre s0 s) : augL rec R of i pre s0 = (none, s) := by
  have := h []
  rw [List.append_nil] at this
  exact this
theorem AugHit.all {ks : List Nat} {r : Option Pth × List Nat} (h : AugHit rec R of i pre s0 r) (hp : pre <+: ks) : augL rec R of i ks s0 = r := by
  obtain ⟨post, rfl⟩ := hp
  exact h post
end
/-- What a search of the program leaves. -/
def AuP (r : Option Pth × List Nat) (m z : Nat) (T F T' F' : List Int) (w' : World) : Prop := match r with
  | (some p, _) => ofL F' = setOf p (ofL F) ∧ ofL T' = setTo p (ofL T)
  | (none, s') => T' = T ∧ F' = F ∧ ∃ n', n' + rest m s' ≤ m ∧ IMap w' z n' (sg s')
theorem Fr3.then_ {p0 p1 z B : Nat} {w w' w'' : World} (h : Fr3 p0 p1 z w w') (k : Below B w' w'') (hB : w.heap.size ≤ B) : Fr3 p0 p1 z w w'' :=
  ⟨k.os.trans h.os, k.tape.trans h.tape, k.output.trans h.output, Nat.le_trans h.size k.size, fun b hb h0 h1 h2 => (k.block b (by omega)).trans (h.at_ b hb h0 h1 h2)⟩
theorem MaM.far {V W : World} {q p0 p1 n0 n1 : Nat} {a0 a1 : Value} {slack : Int} {F0 F1 : List Int} (h : MaM V q p0 p1 a0 a1 n0 n1 slack F0 F1 W) {b k : Nat} (hb : V.heap.size ≤ b) (hq : q ≠ b) (h0 : p0 ≠ b) (h1 : p1 ≠ b) (u : Value) : MaM V q p0 p1 a0 a1 n0 n1 slack F0 F1 (W.setCell ⟨b, k, none⟩ u) :=
  h.at_ (h.r0.below.setCell hb _) (Below.heap_setCell _ _ _ _ hq) (Below.heap_setCell _ _ _ _ h0) (Below.heap_setCell _ _ _ _ h1)

set_option maxRecDepth 100000 in
set_option maxHeartbeats 4000000 in
/-- The partners of both are stored (region 7). -/
theorem augReg7 {V W : World} {q p0 p1 n0 n1 z3 z4 : Nat} {a0 a1 : Value} {slack : Int} {F0 F1 : List Int} (M : MaM V q p0 p1 a0 a1 n0 n1 slack F0 F1 W) {i k : Nat} {x0 x1 : Int} (hf0 : F0[i]? = some x0) (hf1 : F1[k]? = some x1) (hi : i < n0) (hk : k < n1) (b3 : Blk W z3 195 #[.pointer (some ⟨q, 0, none⟩)]) (b4 : Blk W z4 3 #[.int .i64 i]) (h40 : z4 ≠ p0) (h41 : z4 ≠ p1) {t0 t1 t2 t5 t6 t8 t9 t10 t11 t12 t13 t14 t15 t16 t17 t18 t19 t20 t21 t22 t23 t24 t25 t26 t27 t28 t29 t30 t31 t32 t33 t34 t35 t36 t37 t38 t39 t40 t41 t42 t43 t44 t45 t46 t47 t48 t49 : Value} {ds : List Deferred} {lr n : Nat} (Q : Exit → Act → World → Prop)
    (h : ∀ (t34 t35 t36 t37 t38 t39 t40 t41 t42 t43 t44 t45 t46 t47 t48 t49 : Value) (w' : World), MaM V q p0 p1 a0 a1 n0 n1 slack (F0.set i k) (F1.set k i) w' → Fr3 p0 p1 p1 W w' → Q .normal ⟨#[t0, t1, t2, .pointer (some ⟨z3, 0, none⟩), .pointer (some ⟨z4, 0, none⟩), t5, t6, .int .i64 k, t8, t9, t10, t11, t12, t13, t14, t15, t16, t17, t18, t19, t20, t21, t22, t23, t24, t25, t26, t27, t28, t29, t30, t31, t32, t33, t34, t35, t36, t37, t38, t39, t40, t41, t42, t43, t44, t45, t46, t47, t48, t49], ds⟩ w') :
    (regOf Tryz.f161 7).wpIn (Fence.wide.inRound lr) n Tryz.prog Q ⟨#[t0, t1, t2, .pointer (some ⟨z3, 0, none⟩), .pointer (some ⟨z4, 0, none⟩), t5, t6, .int .i64 k, t8, t9, t10, t11, t12, t13, t14, t15, t16, t17, t18, t19, t20, t21, t22, t23, t24, t25, t26, t27, t28, t29, t30, t31, t32, t33, t34, t35, t36, t37, t38, t39, t40, t41, t42, t43, t44, t45, t46, t47, t48, t49], ds⟩ W := by
  have H := Lib.hid h; clear h
  have i1 : ((i : Int) < (n0 : Int)) := by omega
  have k1 : ((k : Int) < (n1 : Int)) := by omega
  have M := M.drew
  have b3 := b3.drew
  have b4 := b4.drew
  have hFr : Fr3 p0 p1 p1 W W.drew := ⟨rfl, rfl, rfl, Nat.le_refl _, fun _ _ _ _ _ => rfl⟩
  have l30 : z3 ≠ p0 := fun e => own_blk_ne M.r0.own b3 (by decide) (by rw [e]; rfl)
  have l31 : z3 ≠ p1 := fun e => own_blk_ne M.r1.own b3 (by decide) (by rw [e]; rfl)
  conv in (regOf _ _) => whnf
  refine wpIn_region_r (fun w' => ∃ F0 F1, MaM V q p0 p1 a0 a1 n0 n1 slack F0 F1 w' ∧ Blk w' z3 195 #[.pointer (some ⟨q, 0, none⟩)] ∧ Blk w' z4 3 #[.int .i64 i]) (by kernel_rfl) (by kernel_rfl) (⟨F0, F1, M, b3, b4⟩) ?_
  refine wpW_det (t' := ?ct0R258) 0 (by rfl) (by kernel_rfl) (NQ_free _) (by kernel_rfl) ?cw0R258 ?ch0R258 ?ca0R258 (Eq.refl _) ?cH0R258
  case cw0R258 => (go_simp; done)
  case ch0R258 =>
    intro ds w' hS K hK
    obtain ⟨G0, G1, MS, bS, cS⟩ := id hS
    obtain ⟨z0, z1, z2, zz3, zz4, zf⟩ := blk5c MS.box
    have d0 := bS.cell 0
    have c0 := cS.cell 0
    have lq := MS.box.lt
    have lz := bS.lt
    have lz4 := cS.lt
    go_simp
    try go_bits
    exact hK _ hS (Gr.refl _)
  case ca0R258 => (first | (simp [Act.put]; done) | (simp [Act.put, *]; done))
  try dsimp only
  refine wpW_det (t' := ?ct1R258) 1 (by rfl) (by kernel_rfl) (NQ_free _) (by kernel_rfl) ?cw1R258 ?ch1R258 ?ca1R258 (Eq.refl _) ?cH1R258
  case cw1R258 => (go_simp; done)
  case ch1R258 =>
    intro ds w' hS K hK
    obtain ⟨G0, G1, MS, bS, cS⟩ := id hS
    obtain ⟨z0, z1, z2, zz3, zz4, zf⟩ := blk5c MS.box
    have d0 := bS.cell 0
    have c0 := cS.cell 0
    have lq := MS.box.lt
    have lz := bS.lt
    have lz4 := cS.lt
    go_simp
    try go_bits
    exact hK _ hS (Gr.refl _)
  case ca1R258 => (first | (simp [Act.put]; done) | (simp [Act.put, *]; done))
  try dsimp only
  refine wpW_det (t' := ?ct2R258) 2 (by rfl) (by kernel_rfl) (NQ_free _) (by kernel_rfl) ?cw2R258 ?ch2R258 ?ca2R258 (Eq.refl _) ?cH2R258
  case cw2R258 => (go_simp; done)
  case ch2R258 =>
    intro ds w' hS K hK
    obtain ⟨G0, G1, MS, bS, cS⟩ := id hS
    obtain ⟨z0, z1, z2, zz3, zz4, zf⟩ := blk5c MS.box
    have d0 := bS.cell 0
    have c0 := cS.cell 0
    have lq := MS.box.lt
    have lz := bS.lt
    have lz4 := cS.lt
    go_simp
    try go_bits
    exact hK _ hS (Gr.refl _)
  case ca2R258 => (first | (simp [Act.put]; done) | (simp [Act.put, *]; done))
  try dsimp only
  refine wpW_det (t' := ?ct3R258) 3 (by rfl) (by kernel_rfl) (NQ_free _) (by kernel_rfl) ?cw3R258 ?ch3R258 ?ca3R258 (Eq.refl _) ?cH3R258
  case cw3R258 => (go_simp; done)
  case ch3R258 =>
    intro ds w' hS K hK
    obtain ⟨G0, G1, MS, bS, cS⟩ := id hS
    obtain ⟨z0, z1, z2, zz3, zz4, zf⟩ := blk5c MS.box
    have d0 := bS.cell 0
    have c0 := cS.cell 0
    have lq := MS.box.lt
    have lz := bS.lt
    have lz4 := cS.lt
    go_simp
    try go_bits
    exact hK _ hS (Gr.refl _)
  case ca3R258 => (first | (simp [Act.put]; done) | (simp [Act.put, *]; done))
  try dsimp only
  refine wpW_det (t' := ?ct4R258) 4 (by rfl) (by kernel_rfl) (NQ_free _) (by kernel_rfl) ?cw4R258 ?ch4R258 ?ca4R258 (Eq.refl _) ?cH4R258
  case cw4R258 => (go_simp; done)
  case ch4R258 =>
    intro ds w' hS K hK
    obtain ⟨G0, G1, MS, bS, cS⟩ := id hS
    obtain ⟨z0, z1, z2, zz3, zz4, zf⟩ := blk5c MS.box
    have d0 := bS.cell 0
    have c0 := cS.cell 0
    have lq := MS.box.lt
    have lz := bS.lt
    have lz4 := cS.lt
    go_simp
    try go_bits
    exact hK _ hS (Gr.refl _)
  case ca4R258 => (first | (simp [Act.put]; done) | (simp [Act.put, *]; done))
  try dsimp only
  refine wpW_det (t' := ?ct5R258) 5 (by rfl) (by kernel_rfl) (NQ_free _) (by kernel_rfl) ?cw5R258 ?ch5R258 ?ca5R258 (Eq.refl _) ?cH5R258
  case cw5R258 => (go_simp; done)
  case ch5R258 =>
    intro ds w' hS K hK
    obtain ⟨G0, G1, MS, bS, cS⟩ := id hS
    obtain ⟨z0, z1, z2, zz3, zz4, zf⟩ := blk5c MS.box
    have d0 := bS.cell 0
    have c0 := cS.cell 0
    have lq := MS.box.lt
    have lz := bS.lt
    have lz4 := cS.lt
    go_simp
    try go_bits
    exact hK _ hS (Gr.refl _)
  case ca5R258 => (first | (simp [Act.put]; done) | (simp [Act.put, *]; done))
  try dsimp only
  refine wpW_det (t' := ?ct6R258) 6 (by rfl) (by kernel_rfl) (NQ_free _) (by kernel_rfl) ?cw6R258 ?ch6R258 ?ca6R258 (Eq.refl _) ?cH6R258
  case cw6R258 => (go_simp; done)
  case ch6R258 =>
    intro ds w' hS K hK
    obtain ⟨G0, G1, MS, bS, cS⟩ := id hS
    obtain ⟨z0, z1, z2, zz3, zz4, zf⟩ := blk5c MS.box
    have d0 := bS.cell 0
    have c0 := cS.cell 0
    have lq := MS.box.lt
    have lz := bS.lt
    have lz4 := cS.lt
    go_simp
    try go_bits
    exact hK _ hS (Gr.refl _)
  case ca6R258 => (first | (simp [Act.put]; done) | (simp [Act.put, *]; done))
  try dsimp only
  refine wpW_det (t' := ?ct7R258) 7 (by rfl) (by kernel_rfl) (NQ_free _) (by kernel_rfl) ?cw7R258 ?ch7R258 ?ca7R258 (Eq.refl _) ?cH7R258
  case cw7R258 => (go_simp; done)
  case ch7R258 =>
    intro ds w' hS K hK
    obtain ⟨G0, G1, MS, bS, cS⟩ := id hS
    obtain ⟨z0, z1, z2, zz3, zz4, zf⟩ := blk5c MS.box
    have d0 := bS.cell 0
    have c0 := cS.cell 0
    have lq := MS.box.lt
    have lz := bS.lt
    have lz4 := cS.lt
    go_simp
    try go_bits
    exact hK _ hS (Gr.refl _)
  case ca7R258 => (first | (simp [Act.put]; done) | (simp [Act.put, *]; done))
  try dsimp only
  refine wpW_det (t' := ?ct8R258) 8 (by rfl) (by kernel_rfl) (NQ_free _) (by kernel_rfl) ?cw8R258 ?ch8R258 ?ca8R258 (Eq.refl _) ?cH8R258
  case cw8R258 => (go_simp; done)
  case ch8R258 =>
    intro ds w' hS K hK
    obtain ⟨G0, G1, MS, bS, cS⟩ := id hS
    obtain ⟨z0, z1, z2, zz3, zz4, zf⟩ := blk5c MS.box
    have d0 := bS.cell 0
    have c0 := cS.cell 0
    have lq := MS.box.lt
    have lz := bS.lt
    have lz4 := cS.lt
    go_simp
    try go_bits
    exact hK _ hS (Gr.refl _)
  case ca8R258 => (first | (simp [Act.put]; done) | (simp [Act.put, *]; done))
  try dsimp only
  refine wpW_det (t' := ?ct9R258) 9 (by rfl) (by kernel_rfl) (NQ_free _) (by kernel_rfl) ?cw9R258 ?ch9R258 ?ca9R258 (Eq.refl _) ?cH9R258
  case cw9R258 => (go_simp; done)
  case ch9R258 =>
    intro ds w' hS K hK
    obtain ⟨G0, G1, MS, bS, cS⟩ := id hS
    obtain ⟨z0, z1, z2, zz3, zz4, zf⟩ := blk5c MS.box
    have d0 := bS.cell 0
    have c0 := cS.cell 0
    have lq := MS.box.lt
    have lz := bS.lt
    have lz4 := cS.lt
    go_simp
    try go_bits
    exact hK _ hS (Gr.refl _)
  case ca9R258 => (first | (simp [Act.put]; done) | (simp [Act.put, *]; done))
  try dsimp only
  refine wpW_det (t' := ?ct10R258) 10 (by rfl) (by kernel_rfl) (NQ_free _) (by kernel_rfl) ?cw10R258 ?ch10R258 ?ca10R258 (Eq.refl _) ?cH10R258
  case cw10R258 => (go_simp; done)
  case ch10R258 =>
    intro ds w' hS K hK
    obtain ⟨G0, G1, MS, bS, cS⟩ := id hS
    obtain ⟨z0, z1, z2, zz3, zz4, zf⟩ := blk5c MS.box
    have d0 := bS.cell 0
    have c0 := cS.cell 0
    have lq := MS.box.lt
    have lz := bS.lt
    have lz4 := cS.lt
    go_simp
    try go_bits
    exact hK _ hS (Gr.refl _)
  case ca10R258 => (first | (simp [Act.put]; done) | (simp [Act.put, *]; done))
  try dsimp only
  refine wpW_det (t' := ?ct11R258) 11 (by rfl) (by kernel_rfl) (NQ_free _) (by kernel_rfl) ?cw11R258 ?ch11R258 ?ca11R258 (Eq.refl _) ?cH11R258
  case cw11R258 => (go_simp; done)
  case ch11R258 =>
    intro ds w' hS K hK
    obtain ⟨G0, G1, MS, bS, cS⟩ := id hS
    obtain ⟨z0, z1, z2, zz3, zz4, zf⟩ := blk5c MS.box
    have d0 := bS.cell 0
    have c0 := cS.cell 0
    have lq := MS.box.lt
    have lz := bS.lt
    have lz4 := cS.lt
    go_simp
    try go_bits
    exact hK _ hS (Gr.refl _)
  case ca11R258 => (first | (simp [Act.put]; done) | (simp [Act.put, *]; done))
  try dsimp only
  refine wpW_det (t' := ?ct12R258) 12 (by rfl) (by kernel_rfl) (NQ_free _) (by kernel_rfl) ?cw12R258 ?ch12R258 ?ca12R258 (Eq.refl _) ?cH12R258
  case cw12R258 => (go_simp; done)
  case ch12R258 =>
    intro ds w' hS K hK
    obtain ⟨G0, G1, MS, bS, cS⟩ := id hS
    obtain ⟨z0, z1, z2, zz3, zz4, zf⟩ := blk5c MS.box
    have d0 := bS.cell 0
    have c0 := cS.cell 0
    have lq := MS.box.lt
    have lz := bS.lt
    have lz4 := cS.lt
    go_simp
    try go_bits
    exact hK _ hS (Gr.refl _)
  case ca12R258 => (first | (simp [Act.put]; done) | (simp [Act.put, *]; done))
  try dsimp only
  refine wpW_det (t' := ?ct13R258) 13 (by rfl) (by kernel_rfl) (NQ_free _) (by kernel_rfl) ?cw13R258 ?ch13R258 ?ca13R258 (Eq.refl _) ?cH13R258
  case cw13R258 => (go_simp; done)
  case ch13R258 =>
    intro ds w' hS K hK
    obtain ⟨G0, G1, MS, bS, cS⟩ := id hS
    obtain ⟨z0, z1, z2, zz3, zz4, zf⟩ := blk5c MS.box
    have d0 := bS.cell 0
    have c0 := cS.cell 0
    have lq := MS.box.lt
    have lz := bS.lt
    have lz4 := cS.lt
    go_simp
    try go_bits
    exact hK _ hS (Gr.refl _)
  case ca13R258 => (first | (simp [Act.put]; done) | (simp [Act.put, *]; done))
  try dsimp only
  refine wpW_branch [14] (by kernel_rfl) (by simp) ?_
  intro w1 hg1 hS1
  have M := MaM.gr M hg1
  have b3 := b3.gr hg1
  have b4 := b4.gr hg1
  have hFr := hFr.trans (Fr3.gr hg1)
  try have u0 := M.r0.cell hf0
  try have u1 := M.r1.cell hf1
  have uf0 := M.r0.frozen i
  have uf1 := M.r1.frozen k
  refine each_cons ?_ (each_nil)
  · refine wpOp_go (by rfl) (Eq.refl _) (by go_simp; done) ?_
    intro K hK
    go_simp
    try simp only [Act.put]
    refine hK _ _ ⟨_, _, M, b3, b4⟩ ?_
    clear hK K
    refine wpW_branch [15] (by kernel_rfl) (by simp) ?_
    intro w2 hg2 hS2
    have M := MaM.gr M hg2
    have b3 := b3.gr hg2
    have b4 := b4.gr hg2
    have hFr := hFr.trans (Fr3.gr hg2)
    try have u0 := M.r0.cell hf0
    try have u1 := M.r1.cell hf1
    have uf0 := M.r0.frozen i
    have uf1 := M.r1.frozen k
    refine each_cons ?_ (each_nil)
    · refine wpOp_go (by rfl) (Eq.refl _) (by go_simp; done) ?_
      intro K hK
      go_simp
      try simp only [Act.put]
      have b3 := b3.far (p := ⟨p0, i, none⟩) l30 (.int .i64 k)
      have b4 := b4.far (p := ⟨p0, i, none⟩) h40 (.int .i64 k)
      have M := M.put0 i k
      have hFr := hFr.trans (Fr3.set0 _ i (.int .i64 k))
      refine hK _ _ ⟨_, _, M, b3, b4⟩ ?_
      clear hK K u0 uf0 uf1 hf0
      try clear u1
      refine wpW_branch [16] (by kernel_rfl) (by simp) ?_
      intro w3 hg3 hS3
      have M := MaM.gr M hg3
      have b3 := b3.gr hg3
      have b4 := b4.gr hg3
      have hFr := hFr.trans (Fr3.gr hg3)
      try have u0 := M.r0.cell hf0
      try have u1 := M.r1.cell hf1
      have uf0 := M.r0.frozen i
      have uf1 := M.r1.frozen k
      refine each_cons ?_ (each_nil)
      · refine wpOp_go (by rfl) (Eq.refl _) (by go_simp; done) ?_
        intro K hK
        go_simp
        try simp only [Act.put]
        refine hK _ _ ⟨_, _, M, b3, b4⟩ ?_
        clear hK K
        refine wpW_branch [17] (by kernel_rfl) (by simp) ?_
        intro w4 hg4 hS4
        have M := MaM.gr M hg4
        have b3 := b3.gr hg4
        have b4 := b4.gr hg4
        have hFr := hFr.trans (Fr3.gr hg4)
        try have u0 := M.r0.cell hf0
        try have u1 := M.r1.cell hf1
        have uf0 := M.r0.frozen i
        have uf1 := M.r1.frozen k
        refine each_cons ?_ (each_nil)
        · refine wpOp_go (by rfl) (Eq.refl _) (by go_simp; done) ?_
          intro K hK
          go_simp
          try simp only [Act.put]
          have b3 := b3.far (p := ⟨p1, k, none⟩) l31 (.int .i64 i)
          have b4 := b4.far (p := ⟨p1, k, none⟩) h41 (.int .i64 i)
          have M := M.put1 k i
          have hFr := hFr.trans (Fr3.set1 _ k (.int .i64 i))
          refine hK _ _ ⟨_, _, M, b3, b4⟩ ?_
          clear hK K u1 uf0 uf1 hf1
          refine wpW_end (by kernel_rfl) ?_
          intro we hg hS
          unfold NQ
          dsimp only
          exact H.out _ _ _ _ _ _ _ _ _ _ _ _ _ _ _ _ we (MaM.gr M hg) (hFr.trans (Fr3.gr hg))
end Go.Proofs.YtidgeagpgllkeaaGreat

namespace Go.Proofs.YtidgeagpgllkeaaGreat
open Go.RowKit Go.Shelf

attribute [local go_sem] Oper.semAt_some

theorem MaM.shut {V W W' : World} {q p0 p1 n0 n1 n₀ : Nat} {a0 a1 : Value} {slack : Int} {F0 F1 : List Int} (h : MaM V q p0 p1 a0 a1 n0 n1 slack F0 F1 W) (hs : Shut n₀ W W') (hn : V.heap.size ≤ n₀) : MaM V q p0 p1 a0 a1 n0 n1 slack F0 F1 W' :=
  ⟨hs.blk h.box, ⟨hs.own h.r0.own, h.r0.below.trans (hs.below.mono hn)⟩, ⟨hs.own h.r1.own, h.r1.below.trans (hs.below.mono hn)⟩, h.ne, h.low⟩
theorem IMap.shut {W W' : World} {b n n₀ : Nat} {g : Int → Bool} (h : IMap W b n g) (hs : Shut n₀ W W') : IMap W' b n g := by
  obtain ⟨D, ⟨es, clock, hb, r⟩, k⟩ := h
  exact ⟨D, ⟨es, clock, hs.same _ _ hb (fun e => by cases e), r⟩, k⟩
theorem Fr3.two {p0 p1 z : Nat} {w w' : World} (h : Fr3 p0 p1 p1 w w') : Fr3 p0 p1 z w w' := ⟨h.os, h.tape, h.output, h.size, fun b hb h0 h1 _ => h.at_ b hb h0 h1 h1⟩
theorem bound_set {F : List Int} {n i k : Nat} (hF : ∀ (k : Nat) (x : Int), F[k]? = some x → x < (n : Int)) (hi : i < n) : ∀ (j : Nat) (x : Int), (F.set k (i : Int))[j]? = some x → x < (n : Int) := by
  intro a y hy
  rw [List.getElem?_set] at hy
  split at hy
  · split at hy
    · obtain rfl : (i : Int) = y := by simpa using hy
      omega
    · cases hy
  · exact hF a y hy

set_option maxRecDepth 100000 in
set_option maxHeartbeats 16000000 in
theorem augment_any (V : World) (q p0 p1 B : Nat) (l0 l1 : List Mk) (A0 A1 : Option Addr) (c0 c1 : Nat) (slack : Int) (h0 : Row V B 6 A0 l0.length (mksC l0)) (h1 : Row V B 6 A1 l1.length (mksC l1)) (hB : B ≤ V.heap.size) (HS0 : Hid (∀ m ∈ l0, MkS m)) (HS1 : Hid (∀ m ∈ l1, MkS m)) (hn0 : l0.length ≤ 1000) (hn1 : l1.length ≤ 1000) :
    ∀ (f i : Nat) (s : List Nat) (z n : Nat) (T F : List Int) (w : World), V.heap.size ≤ z → i < l0.length → rest l1.length s < f → n + rest l1.length s ≤ l1.length → (∀ (k : Nat) (x : Int), F[k]? = some x → x < (l0.length : Int)) → MaM V q p0 p1 (.slice A0 l0.length c0) (.slice A1 l1.length c1) l0.length l1.length slack T F w → IMap w z n (sg s) →
    Calls Tryz.prog 161 #[.pointer (some ⟨q, 0, none⟩), .int .i64 i, .map (some z)] w fun e w' => e = .returned (.bool (aug (relV l0 l1 slack) l1.length (ofL F) f i s).1.isSome) ∧ Fr3 p0 p1 z w w' ∧ ∃ T' F', MaM V q p0 p1 (.slice A0 l0.length c0) (.slice A1 l1.length c1) l0.length l1.length slack T' F' w' ∧ (∀ (k : Nat) (x : Int), F'[k]? = some x → x < (l0.length : Int)) ∧ AuP (aug (relV l0 l1 slack) l1.length (ofL F) f i s) l1.length z T F T' F' w' := by
  intro f
  induction f with
  | zero => intro i s z n T F w _ _ h; omega
  | succ f ih =>
  intro i s0 z n0 T F w hz hi hrest hn hF M hm
  have IH := Lib.hid ih
  clear ih
  obtain ⟨X, hX⟩ : ∃ X, aug (relV l0 l1 slack) l1.length (ofL F) (f + 1) i s0 = X := ⟨_, rfl⟩
  have HX : Hid (augL (aug (relV l0 l1 slack) l1.length (ofL F) f) (relV l0 l1 slack) (ofL F) i (likeV (likeR l0 l1 i slack) l1.length) s0 = X) := Lib.hid (by
    rw [← hX]
    have he : (fun k : Nat => (relV l0 l1 slack) (i : Int) (k : Int)) = likeR l0 l1 i slack := by funext k; exact (likeR_rel l0 l1 i slack k).symm
    show _ = augL (aug (relV l0 l1 slack) l1.length (ofL F) f) (relV l0 l1 slack) (ofL F) i (List.range l1.length) s0
    rw [augL_filter (List.range l1.length) s0, he]
    rfl)
  rw [hX]
  clear hX
  have HF := Lib.hid hF
  have HRS := Lib.hid (And.intro hrest hn)
  clear hF hrest hn
  have b3 := (((Blk.new w 195 #[.pointer (some ⟨q, 0, none⟩)]).alloc (.cells #[.int .i64 (i : Int)] 3)).alloc (.cells #[.map (some z)] 221)).alloc (.cells #[.bool false] 4)
  have b4 := ((Blk.new (w.alloc (.cells #[.pointer (some ⟨q, 0, none⟩)] 195)) 3 #[.int .i64 (i : Int)]).alloc (.cells #[.map (some z)] 221)).alloc (.cells #[.bool false] 4)
  have b5 := (Blk.new ((w.alloc (.cells #[.pointer (some ⟨q, 0, none⟩)] 195)).alloc (.cells #[.int .i64 (i : Int)] 3)) 221 #[.map (some z)]).alloc (.cells #[.bool false] 4)
  have b6 := Blk.new (((w.alloc (.cells #[.pointer (some ⟨q, 0, none⟩)] 195)).alloc (.cells #[.int .i64 (i : Int)] 3)).alloc (.cells #[.map (some z)] 221)) 4 #[.bool false]
  have hBB : Gr w ((((w.alloc (.cells #[.pointer (some ⟨q, 0, none⟩)] 195)).alloc (.cells #[.int .i64 (i : Int)] 3)).alloc (.cells #[.map (some z)] 221)).alloc (.cells #[.bool false] 4)) := (((Below.refl _ _).alloc (Nat.le_refl _) _).alloc (by simp) _).alloc (by simp; omega) _ |>.alloc (by simp; omega) _
  have hsz : ((((w.alloc (.cells #[.pointer (some ⟨q, 0, none⟩)] 195)).alloc (.cells #[.int .i64 (i : Int)] 3)).alloc (.cells #[.map (some z)] 221)).alloc (.cells #[.bool false] 4)).heap.size = w.heap.size + 1 + 1 + 1 + 1 := by simp
  simp only [World.size_alloc] at b4 b5 b6
  have d3 := b3.cell 0
  have d4 := b4.cell 0
  have l3 := b3.lt
  have l4 := b4.lt
  refine callsIn_wide.1 (callsIn_of_wp_marks (F := Fence.wide) (n := 5) Tryz.func161 rfl trivial (wpIn_wide.2 ?_) rfl)
  simp only [Tryz.ntmps161, List.size_toArray, List.length_cons, List.length_nil, Nat.reduceAdd, Nat.reduceSub, Array.replicate_succ, Array.replicate_zero, List.push_toArray, List.append_toArray, List.nil_append, List.cons_append]
  go_wp2_with fail
  obtain ⟨W, hW⟩ : ∃ W, ((((w.alloc (.cells #[.pointer (some ⟨q, 0, none⟩)] 195)).alloc (.cells #[.int .i64 (i : Int)] 3)).alloc (.cells #[.map (some z)] 221)).alloc (.cells #[.bool false] 4)) = W := ⟨_, rfl⟩
  rw [hW] at b3 b4 b5 b6 hBB d3 d4 l3 l4 hsz ⊢
  clear hW
  refine (like_any q (i : Int) W).mono ?_
  rintro e wb ⟨rfl, hwb⟩
  have hgB : Gr W wb := by rw [← hwb]; exact ((Below.refl _ _).alloc (Nat.le_refl _) _).alloc (by simp) _
  have bm : Blk wb W.heap.size 195 #[.pointer (some ⟨q, 0, none⟩)] := by rw [← hwb]; exact (Blk.new W 195 #[.pointer (some ⟨q, 0, none⟩)]).alloc _
  have bj : Blk wb (W.heap.size + 1) 3 #[.int .i64 (i : Int)] := by
    have := Blk.new (W.alloc (.cells #[.pointer (some ⟨q, 0, none⟩)] 195)) 3 #[.int .i64 (i : Int)]
    rw [World.size_alloc] at this
    rw [← hwb]; exact this
  have hwbz : wb.heap.size = W.heap.size + 1 + 1 := by rw [← hwb]; simp
  rw [hsz] at bm bj hwbz ⊢
  clear hwb d3 d4 l3 l4
  have hGB : Gr w wb := Gr.trans hBB hgB
  have MB := M.gr hGB
  have hmB := hm.gr hGB
  replace b3 := b3.gr hgB
  replace b4 := b4.gr hgB
  replace b5 := b5.gr hgB
  replace b6 := b6.gr hgB
  have hlq := M.box.lt
  have hl0 := M.r0.lt
  have hl1 := M.r1.lt
  have hlz := hm.lt
  have hlV := M.vsize
  have hlow0 := M.r0.low
  have hlow1 := M.r1.low
  have hlow := M.low
  have hV1 := MB.r0.below
  have lm : LkM (w.heap.size + 1 + 1 + 1 + 1) (w.heap.size + 1 + 1 + 1 + 1 + 1) q B i l0 l1 A0 A1 c0 c1 slack wb := ⟨bm.cell 0, bj.cell 0, MB.box.cell 0, MB.box.cell 1, MB.box.cell 2, h0.below hV1 hB, h1.below hV1 hB, by omega⟩
  have HSS : Hid (MkS (l0[i]?.getD mkZ) ∧ ∀ m ∈ l1, MkS m) := Lib.hid ⟨by rw [List.getElem?_eq_getElem hi]; exact HS0.out _ (List.getElem_mem hi), HS1.out⟩
  clear bm bj hBB hgB hV1
  dsimp only
  go_wp2_with fail
  refine wpIn_wide.1 (wpIn_rangeFunc_ownH (n := 5) rfl (by omega) (gf := 159) (lb := #[.pointer (some ⟨w.heap.size + 1 + 1 + 1 + 1, 0, none⟩), .pointer (some ⟨w.heap.size + 1 + 1 + 1 + 1 + 1, 0, none⟩)]) rfl trivial (enters_of Tryz.func159 (by kernel_rfl) rfl)
    (like_stops 4 (by omega) (w.heap.size + 1 + 1 + 1 + 1) (w.heap.size + 1 + 1 + 1 + 1 + 1) q B l0 l1 A0 A1 c0 c1 i slack hi hn1 hn0 HSS wb lm) KL.trans (fun W l o o' hl _ _ _ => ⟨World.putObj_heap_other (by omega), World.putObj_heap_other (by omega), World.putObj_heap_other (by omega), fun k hk => World.putObj_heap_other (by omega), by simp⟩) (Below.refl _ _) (fun _ => rfl)
    (fun pre W => ∃ s n, Fr3 p0 p1 z wb W ∧ MaM V q p0 p1 (.slice A0 l0.length c0) (.slice A1 l1.length c1) l0.length l1.length slack T F W ∧ IMap W z n (sg s) ∧ n + rest l1.length s ≤ l1.length ∧ rest l1.length s < f + 1 ∧ AugTo (aug (relV l0 l1 slack) l1.length (ofL F) f) (relV l0 l1 slack) (ofL F) i (pre.map (·.1)) s0 s)
    (fun c pre W => c = .ret ∧ ∃ T' F' p s', wb.heap.size ≤ W.heap.size ∧ Fr3 p0 p1 z w W ∧ Blk W (w.heap.size + 1 + 1 + 1) 4 #[.bool true] ∧ MaM V q p0 p1 (.slice A0 l0.length c0) (.slice A1 l1.length c1) l0.length l1.length slack T' F' W ∧ (∀ (k : Nat) (x : Int), F'[k]? = some x → x < (l0.length : Int)) ∧ AugHit (aug (relV l0 l1 slack) l1.length (ofL F) f) (relV l0 l1 slack) (ofL F) i (pre.map (·.1)) s0 (some p, s') ∧ ofL F' = setOf p (ofL F) ∧ ofL T' = setTo p (ofL T)) ?hI ?hIx ?h0
    (fun x a' W => a' = ⟨#[.pointer (some ⟨q, 0, none⟩), .int .i64 i, .map (some z), .pointer (some ⟨w.heap.size, 0, none⟩), .pointer (some ⟨w.heap.size + 1, 0, none⟩), .pointer (some ⟨w.heap.size + 1 + 1, 0, none⟩), .pointer (some ⟨w.heap.size + 1 + 1 + 1, 0, none⟩), .int .i64 (x.1 : Int), undef, .pointer (some ⟨q, 0, none⟩), .int .i64 i, .func (.func 159) #[] #[.pointer (some ⟨w.heap.size + 1 + 1 + 1 + 1, 0, none⟩), .pointer (some ⟨w.heap.size + 1 + 1 + 1 + 1 + 1, 0, none⟩)], .int .i64 (x.1 : Int), undef, undef, undef, undef, undef, undef, undef, undef, undef, undef, undef, undef, undef, undef, undef, undef, undef, undef, undef, undef, undef, undef, undef, undef, undef, undef, undef, undef, undef, undef, undef, undef, undef, undef, undef, undef, undef], []⟩) ?hAx ?assign ?body ?done ?stop)
  case hI =>
    rintro pre X Y row ⟨s, n, h1, h2, h3, h4, h5, h6⟩ hg hr
    have hbl : Below wb.heap.size X Y := ⟨hg.os, hg.tape, hg.output, hg.size, fun k hk => hg.block k (Nat.lt_of_lt_of_le hk h1.size) (fun e => by have := (hr k e.symm).1; omega)⟩
    exact ⟨s, n, h1.then_ hbl (Nat.le_refl _), h2.under hbl (by omega) (by omega) (by omega), h3.below hbl (by omega), h4, h5, h6⟩
  case hIx =>
    rintro c pre X Y row ⟨hc, T', F', p, s', hz2, h1, h2, h3, h4⟩ hg hr
    have hbl : Below wb.heap.size X Y := ⟨hg.os, hg.tape, hg.output, hg.size, fun k hk => hg.block k (Nat.lt_of_lt_of_le hk hz2) (fun e => by have := (hr k e.symm).1; omega)⟩
    exact ⟨hc, T', F', p, s', Nat.le_trans hz2 hg.size, h1.then_ hbl (by omega), h2.below hbl (by omega), h3.under hbl (by omega) (by omega) (by omega), h4⟩
  case h0 => exact ⟨s0, n0, Fr3.refl _ _ _ _, MB, hmB, HRS.out.2, HRS.out.1, AugTo.start _⟩
  case hAx => exact fun x a' _ X Y row h _ _ => h
  case assign =>
    intro l pre x W K hIp hK
    dsimp only [List.zip_cons_cons]
    gi_wp2
    exact hK _ _ (KeepsFrom.refl _ _) (KL.refl _ _ _ _ _) hIp rfl
  case body =>
    rintro l pre x a' W hl hrl ⟨s, n, hFr, MW, hmW, hnW, hrW, hto⟩ rfl hN
    obtain ⟨x, hxl, hxr⟩ := x
    dsimp only
    have hw64 : W64 (x : Int) := by unfold W64; omega
    have hlook := hmW.look Tryz.underlying221 hw64
    rw [sg_at] at hlook
    have hWz : wb.heap.size ≤ W.heap.size := hFr.size
    have g3a := hFr.blk b3 (by omega) (by omega) (by omega)
    have e3a := g3a.cell 0
    have l3a := g3a.lt
    have g4a := hFr.blk b4 (by omega) (by omega) (by omega)
    have e4a := g4a.cell 0
    have l4a := g4a.lt
    have g5a := hFr.blk b5 (by omega) (by omega) (by omega)
    have e5a := g5a.cell 0
    have l5a := g5a.lt
    have g6a := hFr.blk b6 (by omega) (by omega) (by omega)
    have e6a := g6a.cell 0
    have l6a := g6a.lt
    obtain ⟨m0, m1, m2, m3, m4, mf⟩ := blk5c MW.box
    have lq := MW.box.lt
    have HXR : Hid ((relV l0 l1 slack) (i : Int) (x : Int) = true) := Lib.hid (by rw [← likeR_rel]; exact hxr)
    have HTO := Lib.hid hto
    have HNW := Lib.hid (And.intro hnW hrW)
    have HNN := Lib.hid hN
    clear hto hN
    have x1 : ((x : Int) < (l1.length : Int)) := by omega
    by_cases hin : x ∈ s
    · rw [decide_eq_true hin] at hlook
      have HIN := Lib.hid hin
      clear hin hnW hrW
      gi_wp2_with (refine ⟨trivial, ?_⟩)
      refine ⟨KeepsFrom.refl _ _, KL.refl _ _ _ _ _, s, n, hFr, MW, hmW, HNW.out.1, HNW.out.2, ?_⟩
      rw [List.map_append]; exact HTO.out.skip (fun h => h.2 HIN.out)
    rw [decide_eq_false hin] at hlook
    obtain ⟨W3, hput, hm3, hg3⟩ := hmW.put Tryz.underlying221 (by unfold maxLen; omega) true hw64
    rw [sg_add] at hm3
    obtain ⟨hne0, hne1, hne2⟩ := MW.neq hmW
    have M3 := MW.grown hg3 hz hne0 hne1 hne2
    have hFr3 : Fr3 p0 p1 z wb W3 := hFr.trans (Fr3.grown hg3)
    have hKF3 : KeepsFrom wb.heap.size W W3 := (Fr3.grown hg3 : Fr3 p0 p1 z W W3).from_ (by omega) (by omega) (by omega)
    have hKL3 : KL (w.heap.size + 1 + 1 + 1 + 1) (w.heap.size + 1 + 1 + 1 + 1 + 1) q B W W3 := ⟨hg3.block _ (by omega) (fun e => by have := Option.some.inj e; omega), hg3.block _ (by omega) (fun e => by have := Option.some.inj e; omega), hg3.block _ lq (fun e => hne0 (Option.some.inj e)), fun k hk => hg3.block _ (by omega) (fun e => by have := Option.some.inj e; omega), hg3.size⟩
    have g3b := hFr3.blk b3 (by omega) (by omega) (by omega)
    have e3b := g3b.cell 0
    have l3b := g3b.lt
    have g4b := hFr3.blk b4 (by omega) (by omega) (by omega)
    have e4b := g4b.cell 0
    have l4b := g4b.lt
    have g5b := hFr3.blk b5 (by omega) (by omega) (by omega)
    have e5b := g5b.cell 0
    have l5b := g5b.lt
    have g6b := hFr3.blk b6 (by omega) (by omega) (by omega)
    have e6b := g6b.cell 0
    have l6b := g6b.lt
    obtain ⟨k0, k1, k2, k3, k4, kf⟩ := blk5c M3.box
    have lqb := M3.box.lt
    obtain ⟨o, ho⟩ : ∃ o, F[x]? = some o := ⟨F[x]'(by rw [MW.r1.len]; exact hxl), List.getElem?_eq_getElem _⟩
    obtain ⟨t, ht⟩ : ∃ t, T[i]? = some t := ⟨T[i]'(by rw [MW.r0.len]; exact hi), List.getElem?_eq_getElem _⟩
    have v1 := M3.r1.cell ho
    have lo := M3.r1.lt
    have hoF := HF.out x o ho
    have hr2 := rest_cons hxl hin
    have HRX : Hid (rest l1.length (x :: s) < f ∧ n + 1 + rest l1.length (x :: s) ≤ l1.length) := Lib.hid ⟨by omega, by omega⟩
    have HRK : Hid ((relV l0 l1 slack) (i : Int) (x : Int) = true ∧ x ∉ s) := Lib.hid ⟨HXR.out, hin⟩
    have HO := Lib.hid ho
    have HT := Lib.hid ht
    have HOF := ofL_at ho
    have HTI : i < T.length := by rw [MW.r0.len]; exact hi
    have HFI : x < F.length := by rw [MW.r1.len]; exact hxl
    clear hnW hrW hin hr2 ho ht MW hmW
    by_cases hneg : o < 0
    · have hd : decide (o < 0) = true := decide_eq_true hneg
      have HHIT : Hid (AugHit (aug (relV l0 l1 slack) l1.length (ofL F) f) (relV l0 l1 slack) (ofL F) i (pre.map (·.1) ++ [x]) s0 (some [(i, x)], x :: s)) := Lib.hid (HTO.out.free HRK.out (by rw [HOF]; exact hneg))
      clear HOF
      gi_upto_region 7 with (refine ⟨trivial, ?_⟩)
      refine augReg7 M3 HT.out HO.out hi hxl g3b g4b (by omega) (by omega) _ ?_
      clear hlook hput e3a e4a e5a e6a m0 m1 m2 m3 m4 mf e3b e4b e5b e6b k0 k1 k2 k3 k4 kf v1
      intro t34 t35 t36 t37 t38 t39 t40 t41 t42 t43 t44 t45 t46 t47 t48 t49 w4 M4 hFr4
      have hFr4' : Fr3 p0 p1 z wb w4 := hFr3.trans hFr4.two
      have g6c := hFr4'.blk b6 (by omega) (by omega) (by omega)
      have e6c := g6c.cell 0
      have f6c := g6c.frozen
      have l6c := g6c.lt
      gi_wp2_with (refine ⟨trivial, ?_⟩)
      refine ⟨(hKF3.trans (hFr4.from_ (by omega) (by omega) (by omega))).trans ((KeepsOthers.setCell _ _ _).from _), rfl, T.set i x, F.set x i, [(i, x)], x :: s, ?_, ?_, g6c.set_ 0 (.bool true), M4.far (by omega) (by omega) (by omega) (by omega) _, bound_set HF.out hi, ?_, ?_, ?_⟩
      · have := hFr4'.size; simp; omega
      · exact ((Fr3.gr hGB).trans hFr4').then_ ((Below.refl w.heap.size _).setCell (by simp only; omega) _) (Nat.le_refl _)
      · rw [List.map_append]; exact HHIT.out
      · exact ofL_set HFI
      · exact ofL_set HTI
    · obtain ⟨j, rfl⟩ : ∃ j : Nat, o = (j : Int) := ⟨o.toNat, by omega⟩
      have hj : j < l0.length := by omega
      have hd : decide ((j : Int) < 0) = false := decide_eq_false hneg
      have hih := IH.out j (x :: s) z (n + 1) T F W3 hz hj HRX.out.1 HRX.out.2 HF.out M3 hm3
      obtain ⟨Y, hY⟩ : ∃ Y, aug (relV l0 l1 slack) l1.length (ofL F) f j (x :: s) = Y := ⟨_, rfl⟩
      rw [hY] at hih
      have HY := Lib.hid hY
      have HIH := Lib.hid hih
      clear hih hY
      gi_wp2_with fail
      refine ⟨trivial, ?_⟩
      gi_at_call 161
      refine (CallsIn.inRound l (callsIn_wide.2 HIH.out)).mono ?_
      rintro e W5 ⟨rfl, hFr5, T5, F5, M5, hb5, hA5⟩
      have hFr5' : Fr3 p0 p1 z wb W5 := hFr3.trans hFr5
      have hKF5 : KeepsFrom wb.heap.size W W5 := hKF3.trans (hFr5.from_ (by omega) (by omega) (by omega))
      have hsz5 := hFr5.size
      have hWz3 : wb.heap.size ≤ W3.heap.size := hFr3.size
      have hKL5 : KL (w.heap.size + 1 + 1 + 1 + 1) (w.heap.size + 1 + 1 + 1 + 1 + 1) q B W W5 := hKL3.trans ⟨hFr5.at_ _ (by omega) (by omega) (by omega) (by omega), hFr5.at_ _ (by omega) (by omega) (by omega) (by omega), hFr5.at_ _ lqb M3.ne0 M3.ne1 hne0, fun k hk => hFr5.at_ _ (by omega) (by omega) (by omega) (by omega), hsz5⟩
      obtain ⟨r, s5⟩ := Y
      clear hlook hput e3a e4a e5a e6a m0 m1 m2 m3 m4 mf e3b e4b e5b e6b k0 k1 k2 k3 k4 kf v1 l3a l4a l5a l6a l3b l4b l5b l6b g3a g4a g5a g6a
      have g3c := hFr5'.blk b3 (by omega) (by omega) (by omega)
      have e3c := g3c.cell 0
      have l3c := g3c.lt
      have g4c := hFr5'.blk b4 (by omega) (by omega) (by omega)
      have e4c := g4c.cell 0
      have l4c := g4c.lt
      have g5c := hFr5'.blk b5 (by omega) (by omega) (by omega)
      have e5c := g5c.cell 0
      have l5c := g5c.lt
      have g6c := hFr5'.blk b6 (by omega) (by omega) (by omega)
      have e6c := g6c.cell 0
      have l6c := g6c.lt
      cases r with
      | some p =>
        obtain ⟨hF5, hT5⟩ : ofL F5 = setOf p (ofL F) ∧ ofL T5 = setTo p (ofL T) := hA5
        have HHIT : Hid (AugHit (aug (relV l0 l1 slack) l1.length (ofL F) f) (relV l0 l1 slack) (ofL F) i (pre.map (·.1) ++ [x]) s0 (some ((i, x) :: p), s5)) := Lib.hid (HTO.out.some_ HRK.out (by rw [HOF]; omega) (by rw [HOF, Int.toNat_natCast]; exact HY.out))
        obtain ⟨t5, ht5⟩ : ∃ t, T5[i]? = some t := ⟨T5[i]'(by rw [M5.r0.len]; exact hi), List.getElem?_eq_getElem _⟩
        obtain ⟨o5, ho5⟩ : ∃ o, F5[x]? = some o := ⟨F5[x]'(by rw [M5.r1.len]; exact hxl), List.getElem?_eq_getElem _⟩
        have HTI5 : i < T5.length := by rw [M5.r0.len]; exact hi
        have HFI5 : x < F5.length := by rw [M5.r1.len]; exact hxl
        clear HOF
        gi_upto_region 7 with (refine ⟨trivial, ?_⟩)
        refine augReg7 M5 ht5 ho5 hi hxl g3c g4c (by omega) (by omega) _ ?_
        intro t34 t35 t36 t37 t38 t39 t40 t41 t42 t43 t44 t45 t46 t47 t48 t49 w4 M4 hFr4
        have hFr4' : Fr3 p0 p1 z wb w4 := hFr5'.trans hFr4.two
        have g6d := hFr4'.blk b6 (by omega) (by omega) (by omega)
        have e6d := g6d.cell 0
        have f6d := g6d.frozen
        have l6d := g6d.lt
        clear e3c e4c e5c e6c
        gi_wp2_with (refine ⟨trivial, ?_⟩)
        refine ⟨(hKF5.trans (hFr4.from_ (by omega) (by omega) (by omega))).trans ((KeepsOthers.setCell _ _ _).from _), rfl, T5.set i x, F5.set x i, (i, x) :: p, s5, ?_, ?_, g6d.set_ 0 (.bool true), M4.far (by omega) (by omega) (by omega) (by omega) _, bound_set hb5 hi, ?_, ?_, ?_⟩
        · have := hFr4'.size; simp; omega
        · exact ((Fr3.gr hGB).trans hFr4').then_ ((Below.refl w.heap.size _).setCell (by simp only; omega) _) (Nat.le_refl _)
        · rw [List.map_append]; exact HHIT.out
        · rw [ofL_set HFI5, hF5]; rfl
        · rw [ofL_set HTI5, hT5]; rfl
      | none =>
        obtain ⟨rfl, rfl, n5, hn5, hm5⟩ : T5 = T ∧ F5 = F ∧ ∃ n', n' + rest l1.length s5 ≤ l1.length ∧ IMap W5 z n' (sg s5) := hA5
        have hrm : rest l1.length s5 ≤ rest l1.length (x :: s) := rest_mono (fun y hy => by have := aug_mono (R := (relV l0 l1 slack)) (m := l1.length) (of := ofL F5) f j (x :: s) y hy; rw [HY.out] at this; exact this)
        have HTN : Hid (AugTo (aug (relV l0 l1 slack) l1.length (ofL F5) f) (relV l0 l1 slack) (ofL F5) i (pre.map (·.1) ++ [x]) s0 s5) := Lib.hid (HTO.out.none_ HRK.out (by rw [HOF]; omega) (by rw [HOF, Int.toNat_natCast]; exact HY.out))
        have HN5 : Hid (n5 + rest l1.length s5 ≤ l1.length ∧ rest l1.length s5 < f + 1) := Lib.hid ⟨hn5, by have := HRX.out.1; omega⟩
        clear HOF hn5 hrm
        gi_wp2_with (refine ⟨trivial, ?_⟩)
        refine ⟨hKF5, hKL5, s5, n5, hFr5', M5, hm5, HN5.out.1, HN5.out.2, ?_⟩
        rw [List.map_append]; exact HTN.out
  case done =>
    rintro D xs W hD hxs ⟨s, n, hFr, MW, hmW, hnW, hrW, hto⟩ hdf
    have hX : X = (none, s) := by rw [← HX.out, ← hxs]; exact hto.all
    have g6 := hFr.blk b6 (by omega) (by omega) (by omega)
    have e6 := g6.cell 0
    have f6 := g6.frozen
    have l6 := g6.lt
    have HNW := Lib.hid hnW
    have HMC : Hid (Marks w.heap.size [D] W) := Lib.hid ((Marks.nil _ _).cons (fun _ h => by cases h) hD (by omega) hdf)
    have HFW : Hid (Fr3 p0 p1 z w (W.setCell ⟨w.heap.size + 1 + 1 + 1, 0, none⟩ (.bool false))) := Lib.hid (((Fr3.gr hGB).trans hFr).then_ ((Below.refl w.heap.size _).setCell (by simp only; omega) _) (Nat.le_refl _))
    have HM2 : Hid (MaM V q p0 p1 (.slice A0 l0.length c0) (.slice A1 l1.length c1) l0.length l1.length slack T F (W.setCell ⟨w.heap.size + 1 + 1 + 1, 0, none⟩ (.bool false))) := Lib.hid (MW.far (by omega) (by omega) (by omega) (by omega) _)
    have HI2 : Hid (IMap (W.setCell ⟨w.heap.size + 1 + 1 + 1, 0, none⟩ (.bool false)) z n (sg s)) := Lib.hid (hmW.setCell (by simp only; omega) _)
    subst hX
    clear hto hnW hrW hdf hxs HX
    dsimp only
    go_wp2_with fail
    refine ret_marks (n₀ := w.heap.size) (Ds := [D]) (HMC.out.setCell g6 _) fun w' hs => ⟨.bool false, ?_, rfl, HFW.out.then_ hs.below (Nat.le_refl _), T, F, HM2.out.shut hs (by omega), HF.out, rfl, rfl, n, HNW.out, HI2.out.shut hs⟩
    have u6 := (hs.blk (g6.set_ 0 (.bool false))).cell 0
    simp [results, Tryz.results161, go_sem, u6]
  case stop =>
    rintro D c pre W hD hpre ⟨rfl, T', F', p, s', hzW, hFr, hb6, MW, hFW, hhit, hF', hT'⟩ hdf
    have hX : X = (some p, s') := by rw [← HX.out]; exact hhit.all hpre
    have HMC : Hid (Marks w.heap.size [D] W) := Lib.hid ((Marks.nil _ _).cons (fun _ h => by cases h) hD (by omega) hdf)
    have HFF := Lib.hid (And.intro hF' hT')
    have HFB := Lib.hid hFW
    subst hX
    clear hhit hdf hF' hT' hFW HX hpre
    gi_wp2
    refine ret_marks (n₀ := w.heap.size) (Ds := [D]) HMC.out fun w' hs => ⟨.bool true, ?_, rfl, hFr.then_ hs.below (Nat.le_refl _), T', F', MW.shut hs (by omega), HFB.out, HFF.out⟩
    have u6 := (hs.blk hb6).cell 0
    simp [results, Tryz.results161, go_sem, u6]
end Go.Proofs.YtidgeagpgllkeaaGreat

namespace Go.Proofs.YtidgeagpgllkeaaGreat
open Go.RowKit Go.Shelf

theorem AuP.kuhn {R : Int → Int → Bool} {m z i : Nat} {T F T' F' : List Int} {w' : World} (hF : ofL F = (kuhn R m i).1) (hT : ofL T = (kuhn R m i).2.1) (h : AuP (aug R m (ofL F) (m + 1) i []) m z T F T' F' w') :
    ofL T' = (Proofs.YtidgeagpgllkeaaGreat.kuhn R m (i + 1)).2.1 ∧ ofL F' = (Proofs.YtidgeagpgllkeaaGreat.kuhn R m (i + 1)).1 := by
  conv => rhs; rhs; unfold Proofs.YtidgeagpgllkeaaGreat.kuhn
  conv => lhs; rhs; unfold Proofs.YtidgeagpgllkeaaGreat.kuhn
  rw [← hF, ← hT]
  revert h
  generalize aug R m (ofL F) (m + 1) i [] = X
  intro h
  obtain ⟨r, s'⟩ := X
  cases r with
  | some p => exact ⟨h.2, h.1⟩
  | none =>
    obtain ⟨rfl, rfl, _⟩ := h
    exact ⟨hT, hF⟩

set_option maxRecDepth 100000 in
set_option maxHeartbeats 8000000 in
theorem solve_any (V : World) (q p0 p1 B : Nat) (l0 l1 : List Mk) (A0 A1 : Option Addr) (c0 c1 : Nat) (slack : Int) (h0 : Row V B 6 A0 l0.length (mksC l0)) (h1 : Row V B 6 A1 l1.length (mksC l1)) (hB : B ≤ V.heap.size) (HS0 : Hid (∀ m ∈ l0, MkS m)) (HS1 : Hid (∀ m ∈ l1, MkS m)) (hn0 : l0.length ≤ 1000) (hn1 : l1.length ≤ 1000) (w : World)
    (M : MaM V q p0 p1 (.slice A0 l0.length c0) (.slice A1 l1.length c1) l0.length l1.length slack (List.replicate l0.length (-1)) (List.replicate l1.length (-1)) w) :
    Calls Tryz.prog 136 #[.pointer (some ⟨q, 0, none⟩)] w fun e w' => (∃ v, e = .returned v) ∧ ∃ T F, MaM V q p0 p1 (.slice A0 l0.length c0) (.slice A1 l1.length c1) l0.length l1.length slack T F w' ∧ ofL T = (kuhn (relV l0 l1 slack) l1.length l0.length).2.1 ∧ ofL F = (kuhn (relV l0 l1 slack) l1.length l0.length).1 := by
  obtain ⟨m0, m1, m2, m3, m4, mf⟩ := blk5c M.box
  have lq := M.box.lt
  go_enter Tryz.func136, Tryz.ntmps136
  go_wp2_with fail
  clear m0 m1 m2 m3 m4 mf lq
  go_loopw [9] (fun s9 wr => ∃ (i : Nat) (T F : List Int), i ≤ l0.length ∧ s9 = .int .i64 i ∧ Hid (ofL T = (kuhn (relV l0 l1 slack) l1.length i).2.1 ∧ ofL F = (kuhn (relV l0 l1 slack) l1.length i).1 ∧ ∀ (k : Nat) (x : Int), F[k]? = some x → x < (l0.length : Int)) ∧ MaM V q p0 p1 (.slice A0 l0.length c0) (.slice A1 l1.length c1) l0.length l1.length slack T F wr) (fun s9 _ => l0.length - (intOf s9).toNat)
  case atStart => exact ⟨0, _, _, Nat.zero_le _, by go_num, Lib.hid ⟨ofL_none _, ofL_none _, fun k x h => by
    rw [List.getElem?_replicate] at h
    split at h
    · obtain rfl : -1 = x := by simpa using h
      omega
    · cases h⟩, M⟩
  case round =>
    clear M
    obtain ⟨i, T, F, hi, rfl, HF, M⟩ := hrel
    by_cases hlt : i < l0.length
    · have i1' : ((i : Int) < (l0.length : Int)) := by omega
      have hV := M.vsize
      have him := IMap.made wr
      rw [← sg_nil] at him
      have MA : MaM V q p0 p1 (.slice A0 l0.length c0) (.slice A1 l1.length c1) l0.length l1.length slack T F (wr.alloc (.map #[] 0)) := M.gr ((Below.refl _ _).alloc (Nat.le_refl _) _)
      have hmk := @run_makeMap Tryz.prog
      go_wp2_with fail
      refine (augment_any V q p0 p1 B l0 l1 A0 A1 c0 c1 slack h0 h1 hB HS0 HS1 hn0 hn1 (l1.length + 1) i [] wr.heap.size 0 T F _ hV hlt (by rw [rest_nil]; omega) (by rw [rest_nil]; omega) HF.out.2.2 MA him).mono ?_
      rintro e w4 ⟨rfl, _, T4, F4, M4, hb4, hA4⟩
      obtain ⟨g1, g2⟩ := hA4.kuhn HF.out.2.1 HF.out.1
      have HG := Lib.hid (And.intro g1 (And.intro g2 hb4))
      clear g1 g2 hb4 hA4 HF MA him M
      go_wp2
      exact ⟨⟨i + 1, T4, F4, by omega, by go_num, HG, M4⟩, by simp [intOf]; omega⟩
    · obtain rfl : i = l0.length := by omega
      have H1 := Lib.hid HF.out.1; have H2 := Lib.hid HF.out.2.1
      clear HF
      go_wp2
      refine bodyPost_end (results_none rfl _ _ _) rfl ?_
      exact ⟨⟨_, rfl⟩, T, F, M, H1.out, H2.out⟩
end Go.Proofs.YtidgeagpgllkeaaGreat

namespace Go.Proofs.YtidgeagpgllkeaaGreat
open Go.RowKit Go.Shelf

theorem pairsV_succ (n : Nat) (tt : Nat → Int) : pairsV (n + 1) tt = pairsV n tt ++ if 0 ≤ tt n then [((n : Int), tt n)] else [] := by
  unfold pairsV
  rw [List.range_succ, List.filter_append, List.map_append, List.filter_cons, List.filter_nil]
  by_cases h : 0 ≤ tt n
  · rw [if_pos h, decide_eq_true h, if_pos rfl]; rfl
  · rw [if_neg h, decide_eq_false h, if_neg (by simp)]; rfl
theorem pairsV_le (n : Nat) (tt : Nat → Int) : (pairsV n tt).length ≤ n := by
  unfold pairsV
  rw [List.length_map]
  exact Nat.le_trans (List.length_filter_le _ _) (by simp)
theorem numsV_succ (n : Nat) (x : Nat → Bool) : numsV (n + 1) x = numsV n x ++ if x n = true then [(n : Int)] else [] := by
  unfold numsV
  rw [List.range_succ, List.filter_append, List.map_append, List.filter_cons, List.filter_nil]
  cases h : x n <;> rfl
theorem numsV_le (n : Nat) (x : Nat → Bool) : (numsV n x).length ≤ n := by
  unfold numsV
  rw [List.length_map]
  exact Nat.le_trans (List.length_filter_le _ _) (by simp)

set_option maxRecDepth 100000 in
set_option maxHeartbeats 8000000 in
theorem pairs_any (V : World) (q p0 p1 n0 n1 : Nat) (a0 a1 : Value) (slack : Int) (T F : List Int) (w : World) (M : MaM V q p0 p1 a0 a1 n0 n1 slack T F w) (hn0 : n0 ≤ 1000) :
    Calls Tryz.prog 137 #[.pointer (some ⟨q, 0, none⟩)] w fun e w' => ∃ v, e = .returned v ∧ w'.ownsRow w.heap.size 25 2 v (pairsV n0 (ofL T)).length (cellsC (pairsV n0 (ofL T))) ∧ Below w.heap.size w w' := by
  obtain ⟨m0, m1, m2, m3, m4, mf⟩ := blk5c M.box
  have lq := M.box.lt
  obtain ⟨i0, hi, hz0, hz1, hz2⟩ := info_parts infoCell
  go_enter Tryz.func137, Tryz.ntmps137
  go_wp2_with fail
  clear m0 m1 m2 m3 m4 mf lq
  go_loopw [3, 12] (fun s3 s12 wr => ∃ (i : Nat), i ≤ n0 ∧ s12 = .int .i64 i ∧ Gr w wr ∧ wr.ownsRow w.heap.size 25 2 s3 (pairsV i (ofL T)).length (cellsC (pairsV i (ofL T)))) (fun _ s12 _ => n0 - (intOf s12).toNat)
  case atStart => exact ⟨0, Nat.zero_le _, by go_num, Below.refl _ _, rfl, .inl ⟨rfl, rfl⟩⟩
  case round =>
    obtain ⟨i, hlei, rfl, hG, hown⟩ := hrel
    by_cases hlt : i < n0
    · have i1' : ((i : Int) < (n0 : Int)) := by omega
      have MR := M.gr hG
      have hV := Below.size hG
      obtain ⟨x, hx⟩ : ∃ x, T[i]? = some x := ⟨T[i]'(by rw [M.r0.len]; exact hlt), List.getElem?_eq_getElem _⟩
      have c0 := MR.r0.cell hx
      have l0 := MR.r0.lt
      have hof := ofL_at hx
      have hle := pairsV_le i (ofL T)
      have hs := pairsV_succ i (ofL T)
      rw [hof] at hs
      by_cases hneg : 0 ≤ x
      · rw [if_pos hneg] at hs
        have HS := Lib.hid hs
        clear hs hof
        have hd : decide (0 ≤ x) = true := decide_eq_true hneg
        go_wp2_with (at_builtin; refine wpList_append_own _ rfl _ _ 87 rfl w.heap.size 25 i0 (.agg #[.int .i64 0, .int .i64 0]) 2 16 Tryz.underlying87 hi hz0 hz1 hz2 rfl (by decide) _ _ _ rfl (hown.alloc _) ⟨wr.heap.size, 0, none⟩ 1 1 [.int .i64 i, .int .i64 x] rfl rfl (cell_two_new _ _ _ _) (by simp [Value.oneCell']) (by unfold maxLen; omega) (by omega) (by simp; omega) ?_; intro v2 W5 hown' hgrow _)
        have e1 : (pairsV (i + 1) (ofL T)).length = (pairsV i (ofL T)).length + 1 := by rw [HS.out]; simp
        have e2 := cellsC_snoc (pairsV i (ofL T)) ((i : Int), x)
        have hal : Gr wr (wr.alloc (.cells #[.int .i64 (i : Int), .int .i64 x] 25)) := (Below.refl _ _).alloc (Nat.le_refl _) _
        refine ⟨⟨i + 1, by omega, by go_num, ?_, ?_⟩, by simp [intOf]; omega⟩
        · have hGa := Gr.trans hG hal
          exact hGa.grown hgrow (Below.size hGa) (fun r e => ((hown.alloc (.cells #[.int .i64 (i : Int), .int .i64 x] 25)).lt r e).1)
        · rw [e1, HS.out, e2]; exact hown'
      · rw [if_neg hneg, List.append_nil] at hs
        have HS := Lib.hid hs
        clear hs hof
        have hd : decide (0 ≤ x) = false := decide_eq_false hneg
        go_wp2
        exact ⟨⟨i + 1, by omega, by go_num, hG, by rw [HS.out]; exact hown⟩, by simp [intOf]; omega⟩
    · obtain rfl : i = n0 := by omega
      go_wp2
      go_ret
      exact ⟨_, rfl, hown, hG⟩
end Go.Proofs.YtidgeagpgllkeaaGreat

namespace Go.Proofs.YtidgeagpgllkeaaGreat
open Go.RowKit Go.Shelf

/-- Bools, in a row of the call's own. -/
structure BoM (V : World) (p N : Nat) (X : List Bool) (W : World) : Prop where
  own : W.ownsRow V.heap.size 4 1 (.slice (some ⟨p, 0, none⟩) N N) N (boolsC X)
  below : Below V.heap.size V W
section
variable {V W W' : World} {p N : Nat} {X : List Bool}
theorem BoM.gr (h : BoM V p N X W) (hk : Gr W W') : BoM V p N X W' := ⟨own_below h.own hk, h.below.trans (Below.mono hk (Below.size h.below))⟩
theorem BoM.drew (h : BoM V p N X W) : BoM V p N X W.drew := ⟨h.own.drew, h.below.drew⟩
theorem BoM.len (h : BoM V p N X W) : X.length = N := by have := h.own.1; simp [boolsC] at this; omega
theorem BoM.cell (h : BoM V p N X W) {k : Nat} {x : Bool} (hk : X[k]? = some x) : W.cell? ⟨p, k, none⟩ = some (.bool x) := by
  have := h.own.cells (g := p) rfl k (.bool x) (by simp [boolsC, hk])
  rwa [Addr.add_lit, Nat.zero_add] at this
theorem BoM.frozen (h : BoM V p N X W) (k : Nat) : W.frozen? ⟨p, k, none⟩ = false := h.own.frozenAt k
theorem BoM.lt (h : BoM V p N X W) : p < W.heap.size := (h.own.lt p rfl).2
theorem BoM.low (h : BoM V p N X W) : V.heap.size ≤ p := (h.own.lt p rfl).1
theorem BoM.put (h : BoM V p N X W) (k : Nat) (x : Bool) : BoM V p N (X.set k x) (W.setCell ⟨p, k, none⟩ (.bool x)) := by
  obtain ⟨r1, _⟩ := h.own.stored k (.bool x)
  exact ⟨by rw [boolsC_set]; exact r1, h.below.setCell h.low _⟩
theorem BoM.at_ (h : BoM V p N X W) (hV : Below V.heap.size V W') (e : W'.heap[p]? = W.heap[p]?) : BoM V p N X W' := ⟨own_at h.own e, hV⟩
theorem BoM.nel {q m : Nat} {F : List Int} (h : BoM V p N X W) (k : LbM V q m F W) : q ≠ p := fun e => by
  rcases own_two' k.own h.own (by decide) with h1 | h1
  · simp [Value.ownBlock] at h1
  · exact h1 (by simp [Value.ownBlock, e])
theorem BoM.neb {g : Nat} {t : TypeId} {cs : Array Value} (h : BoM V p N X W) (k : Blk W g t cs) (ht : 4 ≠ t) : g ≠ p := fun e => own_blk_ne h.own k ht (by rw [e]; rfl)
end

/-- What has been reached, with all that is read. -/
structure ReC (V : World) (rb mb fb q p0 p1 b0 b1 n0 n1 : Nat) (a0 a1 : Value) (slack : Int) (T F : List Int) (X Y : List Bool) (W : World) : Prop where
  rbx : Blk W rb 223 #[.slice (some ⟨b0, 0, none⟩) n0 n0, .slice (some ⟨b1, 0, none⟩) n1 n1]
  mbx : Blk W mb 195 #[.pointer (some ⟨q, 0, none⟩)]
  fbx : Blk W fb 224 #[.func (.func 162) #[] #[.pointer (some ⟨rb, 0, none⟩), .pointer (some ⟨mb, 0, none⟩), .pointer (some ⟨fb, 0, none⟩)]]
  m : MaM V q p0 p1 a0 a1 n0 n1 slack T F W
  x : BoM V b0 n0 X W
  y : BoM V b1 n1 Y W
  ne : b0 ≠ b1
section
variable {V W W' : World} {rb mb fb q p0 p1 b0 b1 n0 n1 : Nat} {a0 a1 : Value} {slack : Int} {T F : List Int} {X Y X' Y' : List Bool}
theorem ReC.fr (h : ReC V rb mb fb q p0 p1 b0 b1 n0 n1 a0 a1 slack T F X Y W) (k : Fr3 b0 b1 b1 W W') (hx : BoM V b0 n0 X' W') (hy : BoM V b1 n1 Y' W') : ReC V rb mb fb q p0 p1 b0 b1 n0 n1 a0 a1 slack T F X' Y' W' := by
  refine ⟨k.blk h.rbx ?_ ?_ ?_, k.blk h.mbx ?_ ?_ ?_, k.blk h.fbx ?_ ?_ ?_, h.m.at_ hx.below ?_ ?_ ?_, hx, hy, h.ne⟩
  · exact h.x.neb h.rbx (by decide)
  · exact h.y.neb h.rbx (by decide)
  · exact h.y.neb h.rbx (by decide)
  · exact h.x.neb h.mbx (by decide)
  · exact h.y.neb h.mbx (by decide)
  · exact h.y.neb h.mbx (by decide)
  · exact h.x.neb h.fbx (by decide)
  · exact h.y.neb h.fbx (by decide)
  · exact h.y.neb h.fbx (by decide)
  · exact k.at_ _ h.m.box.lt (h.x.neb h.m.box (by decide)) (h.y.neb h.m.box (by decide)) (h.y.neb h.m.box (by decide))
  · exact k.at_ _ h.m.r0.lt (h.x.nel h.m.r0) (h.y.nel h.m.r0) (h.y.nel h.m.r0)
  · exact k.at_ _ h.m.r1.lt (h.x.nel h.m.r1) (h.y.nel h.m.r1) (h.y.nel h.m.r1)
theorem ReC.gr (h : ReC V rb mb fb q p0 p1 b0 b1 n0 n1 a0 a1 slack T F X Y W) (k : Gr W W') : ReC V rb mb fb q p0 p1 b0 b1 n0 n1 a0 a1 slack T F X Y W' := h.fr (Fr3.gr k) (h.x.gr k) (h.y.gr k)
theorem ReC.put0 (h : ReC V rb mb fb q p0 p1 b0 b1 n0 n1 a0 a1 slack T F X Y W) (k : Nat) (u : Bool) : ReC V rb mb fb q p0 p1 b0 b1 n0 n1 a0 a1 slack T F (X.set k u) Y (W.setCell ⟨b0, k, none⟩ (.bool u)) :=
  h.fr (Fr3.set0 _ _ _) (h.x.put k u) (h.y.at_ (h.y.below.setCell h.x.low _) (Below.heap_setCell _ _ _ _ (fun e => h.ne e.symm)))
theorem ReC.put1 (h : ReC V rb mb fb q p0 p1 b0 b1 n0 n1 a0 a1 slack T F X Y W) (k : Nat) (u : Bool) : ReC V rb mb fb q p0 p1 b0 b1 n0 n1 a0 a1 slack T F X (Y.set k u) (W.setCell ⟨b1, k, none⟩ (.bool u)) :=
  h.fr (Fr3.set1 _ _ _) (h.x.at_ (h.x.below.setCell h.y.low _) (Below.heap_setCell _ _ _ _ h.ne)) (h.y.put k u)
theorem ReC.under {B : Nat} (h : ReC V rb mb fb q p0 p1 b0 b1 n0 n1 a0 a1 slack T F X Y W) (hb : Below B W W') (h1 : rb < B) (h2 : mb < B) (h3 : fb < B) (h4 : q < B) (h5 : p0 < B) (h6 : p1 < B) (h7 : b0 < B) (h8 : b1 < B) : ReC V rb mb fb q p0 p1 b0 b1 n0 n1 a0 a1 slack T F X Y W' :=
  have hV := h.m.r0.below.trans (hb.mono (by have := h.m.low; omega))
  ⟨h.rbx.below hb h1, h.mbx.below hb h2, h.fbx.below hb h3, h.m.under hb h4 h5 h6, h.x.at_ hV (hb.block _ h7), h.y.at_ hV (hb.block _ h8), h.ne⟩
theorem ReC.shut {n₀ : Nat} (h : ReC V rb mb fb q p0 p1 b0 b1 n0 n1 a0 a1 slack T F X Y W) (hs : Shut n₀ W W') (hn : V.heap.size ≤ n₀) : ReC V rb mb fb q p0 p1 b0 b1 n0 n1 a0 a1 slack T F X Y W' :=
  ⟨hs.blk h.rbx, hs.blk h.mbx, hs.blk h.fbx, h.m.shut hs hn, ⟨hs.own h.x.own, h.x.below.trans (hs.below.mono hn)⟩, ⟨hs.own h.y.own, h.y.below.trans (hs.below.mono hn)⟩, h.ne⟩
end

/-! ### plain words -/
def isT (X : List Bool) (a : Nat) : Prop := X[a]? = some true
theorem isT_set {X : List Bool} {k a : Nat} (hk : k < X.length) : isT (X.set k true) a ↔ a = k ∨ isT X a := by
  unfold isT
  rw [List.getElem?_set]
  by_cases e : k = a
  · subst e; simp [hk]
  · rw [if_neg e]
    exact ⟨.inr, fun h => h.resolve_left (fun h => e h.symm)⟩
def restX (X : List Bool) : Nat := X.countP (fun b => !b)
theorem restX_mono : ∀ {X X' : List Bool}, X'.length = X.length → (∀ a, isT X a → isT X' a) → restX X' ≤ restX X
  | [], X', h, _ => by
    obtain rfl := List.eq_nil_of_length_eq_zero h
    exact Nat.le_refl _
  | b :: X, [], h, _ => by cases h
  | b :: X, b' :: X', h, hi => by
    have ih := restX_mono (X := X) (X' := X') (by simpa using h) (fun a ha => by have := hi (a + 1) (by simpa [isT] using ha); simpa [isT] using this)
    have h0 := hi 0
    unfold restX at ih ⊢
    rw [List.countP_cons, List.countP_cons]
    cases b <;> cases b' <;> simp [isT] at h0 ⊢ <;> omega
theorem restX_set {X : List Bool} {k : Nat} (h : X[k]? = some false) : restX (X.set k true) + 1 = restX X := by
  induction X generalizing k with
  | nil => cases h
  | cons b X ih =>
    cases k with
    | zero =>
      obtain rfl : b = false := by simpa using h
      simp [restX]
    | succ k =>
      have := ih (k := k) (by simpa using h)
      unfold restX at this ⊢
      rw [List.set_cons_succ, List.countP_cons, List.countP_cons]
      omega
/-- What one search leaves. -/
structure RchS (R : Int → Int → Bool) (m : Nat) (of : Nat → Int) (D : Nat → Prop) (X Y X' Y' : List Bool) : Prop where
  up0 : ∀ a, isT X a → isT X' a
  up1 : ∀ k, isT Y k → isT Y' k
  new0 : ∀ a, isT X' a → isT X a ∨ ∀ x : Nat, x < m → R a x = true → isT Y' x
  new1 : ∀ k, isT Y' k → isT Y k ∨ (D k ∧ isT X' (of k).toNat)
theorem RchS.refl (R : Int → Int → Bool) (m : Nat) (of : Nat → Int) (D : Nat → Prop) (X Y : List Bool) : RchS R m of D X Y X Y := ⟨fun _ h => h, fun _ h => h, fun _ h => .inl h, fun _ h => .inl h⟩
theorem RchS.trans {R : Int → Int → Bool} {m : Nat} {of : Nat → Int} {D : Nat → Prop} {X Y X' Y' X'' Y'' : List Bool} (h : RchS R m of D X Y X' Y') (k : RchS R m of D X' Y' X'' Y'') : RchS R m of D X Y X'' Y'' :=
  ⟨fun a ha => k.up0 a (h.up0 a ha), fun a ha => k.up1 a (h.up1 a ha), fun a ha => (k.new0 a ha).elim (fun ha => (h.new0 a ha).imp id fun hh x hx hR => k.up1 x (hh x hx hR)) .inr,
    fun a ha => (k.new1 a ha).elim (fun ha => (h.new1 a ha).imp id fun hh => ⟨hh.1, k.up0 _ hh.2⟩) .inr⟩
/-- The search of i under way: what is like has been looked at so far. -/
theorem RchS.step {R : Int → Int → Bool} {m : Nat} {of : Nat → Int} {D : Nat → Prop} {X1 Y X2 Y2 X3 Y4 : List Bool} {k : Nat} (hk : k < Y2.length) (h : RchS R m of D X1 Y X2 Y2) (hD : D k) (c : RchS R m of D X2 (Y2.set k true) X3 Y4) (hT : isT X3 (of k).toNat) : RchS R m of D X1 Y X3 Y4 ∧ isT Y4 k := by
  refine ⟨⟨fun a ha => c.up0 a (h.up0 a ha), fun a ha => c.up1 a ((isT_set hk).2 (.inr (h.up1 a ha))), fun a ha => ?_, fun a ha => ?_⟩, c.up1 k ((isT_set hk).2 (.inl rfl))⟩
  · rcases c.new0 a ha with ha | ha
    · exact (h.new0 a ha).imp id fun hh x hx hR => c.up1 x ((isT_set hk).2 (.inr (hh x hx hR)))
    · exact .inr ha
  · rcases c.new1 a ha with ha | ha
    · rcases (isT_set hk).1 ha with rfl | ha
      · exact .inr ⟨hD, hT⟩
      · exact (h.new1 a ha).imp id fun hh => ⟨hh.1, c.up0 _ hh.2⟩
    · exact .inr ha
/-- The search of i at its end. -/
theorem RchS.close {R : Int → Int → Bool} {m i : Nat} {of : Nat → Int} {D : Nat → Prop} {X Y X2 Y2 : List Bool} (hi : i < X.length) (h : RchS R m of D (X.set i true) Y X2 Y2) (hall : ∀ x : Nat, x < m → R i x = true → isT Y2 x) : RchS R m of D X Y X2 Y2 ∧ isT X2 i := by
  refine ⟨⟨fun a ha => h.up0 a ((isT_set hi).2 (.inr ha)), h.up1, fun a ha => ?_, h.new1⟩, h.up0 i ((isT_set hi).2 (.inl rfl))⟩
  rcases h.new0 a ha with ha | ha
  · rcases (isT_set hi).1 ha with rfl | ha
    · exact .inr hall
    · exact .inl ha
  · exact .inr ha
end Go.Proofs.YtidgeagpgllkeaaGreat

namespace Go.Proofs.YtidgeagpgllkeaaGreat
open Go.RowKit Go.Shelf

theorem reachKeeps {V W w' : World} {rb mb fb q p0 p1 b0 b1 n0 n1 : Nat} {a0 a1 : Value} {slack : Int} {T F : List Int} {X Y : List Bool} (C : ReC V rb mb fb q p0 p1 b0 b1 n0 n1 a0 a1 slack T F X Y W) {k j : Nat} (hf : F[k]? = some (j : Int)) {Post : World → Prop} (hS : Gr W w' ∨ (Fr3 b0 b1 b1 W w' ∧ Post w')) :
    Blk w' mb 195 #[.pointer (some ⟨q, 0, none⟩)] ∧ Blk w' fb 224 #[.func (.func 162) #[] #[.pointer (some ⟨rb, 0, none⟩), .pointer (some ⟨mb, 0, none⟩), .pointer (some ⟨fb, 0, none⟩)]] ∧ Blk w' q 200 #[a0, a1, .int .i64 slack, .slice (some ⟨p0, 0, none⟩) n0 n0, .slice (some ⟨p1, 0, none⟩) n1 n1] ∧ w'.cell? ⟨p1, k, none⟩ = some (.int .i64 j) ∧ p1 < w'.heap.size := by
  have k : Fr3 b0 b1 b1 W w' := hS.elim Fr3.gr And.left
  refine ⟨k.blk C.mbx (C.x.neb C.mbx (by decide)) (C.y.neb C.mbx (by decide)) (C.y.neb C.mbx (by decide)), k.blk C.fbx (C.x.neb C.fbx (by decide)) (C.y.neb C.fbx (by decide)) (C.y.neb C.fbx (by decide)), k.blk C.m.box (C.x.neb C.m.box (by decide)) (C.y.neb C.m.box (by decide)) (C.y.neb C.m.box (by decide)), ?_, Nat.lt_of_lt_of_le C.m.r1.lt k.size⟩
  exact (World.cell?_of_block (a := ⟨p1, _, none⟩) (k.at_ _ C.m.r1.lt (C.x.nel C.m.r1) (C.y.nel C.m.r1) (C.y.nel C.m.r1))).trans (C.m.r1.cell hf)

set_option maxRecDepth 100000 in
set_option maxHeartbeats 4000000 in
/-- The search goes on at the partner (region 6). -/
theorem reachReg6 {V W : World} {rb mb fb q p0 p1 b0 b1 n0 n1 : Nat} {a0 a1 : Value} {slack : Int} {T F : List Int} {X Y : List Bool} (C : ReC V rb mb fb q p0 p1 b0 b1 n0 n1 a0 a1 slack T F X Y W) {k j : Nat} (hk : k < n1) (hf : F[k]? = some (j : Int)) (Post : World → Prop) (hP : ∀ {A B : World}, Gr A B → Post A → Post B)
    (HC : ∀ W' : World, ReC V rb mb fb q p0 p1 b0 b1 n0 n1 a0 a1 slack T F X Y W' → Calls Tryz.prog 162 #[.int .i64 j, .pointer (some ⟨rb, 0, none⟩), .pointer (some ⟨mb, 0, none⟩), .pointer (some ⟨fb, 0, none⟩)] W' fun e w' => (∃ v, e = .returned v) ∧ Fr3 b0 b1 b1 W' w' ∧ Post w') {t0 t1 t4 t6 t7 t8 t9 t10 t11 t12 t13 t14 t15 t16 t17 t18 t19 t20 t21 t22 t23 t24 t25 t26 t27 t28 t29 t30 t31 t32 t33 t34 t35 t36 t37 t38 t39 t40 t41 : Value} {ds : List Deferred} {lr n : Nat} (Q : Exit → Act → World → Prop)
    (h : ∀ (t32 t33 t34 t35 t36 t37 t38 t39 t40 t41 : Value) (w' : World), Fr3 b0 b1 b1 W w' → Post w' → Q .normal ⟨#[t0, t1, .pointer (some ⟨mb, 0, none⟩), .pointer (some ⟨fb, 0, none⟩), t4, .int .i64 k, t6, t7, t8, t9, t10, t11, t12, t13, t14, t15, t16, t17, t18, t19, t20, t21, t22, t23, t24, t25, t26, t27, t28, t29, t30, t31, t32, t33, t34, t35, t36, t37, t38, t39, t40, t41], ds⟩ w') :
    (regOf Tryz.f162 6).wpIn (Fence.wide.inRound lr) n Tryz.prog Q ⟨#[t0, t1, .pointer (some ⟨mb, 0, none⟩), .pointer (some ⟨fb, 0, none⟩), t4, .int .i64 k, t6, t7, t8, t9, t10, t11, t12, t13, t14, t15, t16, t17, t18, t19, t20, t21, t22, t23, t24, t25, t26, t27, t28, t29, t30, t31, t32, t33, t34, t35, t36, t37, t38, t39, t40, t41], ds⟩ W := by
  have H := Lib.hid h; clear h
  have HC' := Lib.hid HC; clear HC
  have k1 : ((k : Int) < (n1 : Int)) := by omega
  have hFr : Fr3 b0 b1 b1 W W.drew := ⟨rfl, rfl, rfl, Nat.le_refl _, fun _ _ _ _ _ => rfl⟩
  have C1 : ReC V rb mb fb q p0 p1 b0 b1 n0 n1 a0 a1 slack T F X Y W.drew := C.fr hFr C.x.drew C.y.drew
  conv in (regOf _ _) => whnf
  refine wpIn_region_r (fun w' => Gr W.drew w' ∨ (Fr3 b0 b1 b1 W.drew w' ∧ Post w')) (by kernel_rfl) (by kernel_rfl) (.inl (Below.refl _ _)) ?_
  refine wpW_det (t' := ?ct0R259) 0 (by rfl) (by kernel_rfl) (NQ_free _) (by kernel_rfl) ?cw0R259 ?ch0R259 ?ca0R259 (Eq.refl _) ?cH0R259
  case cw0R259 => (go_simp; done)
  case ch0R259 =>
    intro ds w' hS K hK
    have hm := reachKeeps C1 hf hS
    obtain ⟨x1, x2, x3, x4, x5⟩ := hm
    obtain ⟨z0, z1, z2, zz3, zz4, zf⟩ := blk5c x3
    have d0 := x1.cell 0
    have c0 := x2.cell 0
    have lq := x3.lt
    have lz := x1.lt
    have lz4 := x2.lt
    go_simp
    try go_bits
    exact hK _ hS (Gr.refl _)
  case ca0R259 => (first | (simp [Act.put]; done) | (simp [Act.put, *]; done))
  try dsimp only
  refine wpW_det (t' := ?ct1R259) 1 (by rfl) (by kernel_rfl) (NQ_free _) (by kernel_rfl) ?cw1R259 ?ch1R259 ?ca1R259 (Eq.refl _) ?cH1R259
  case cw1R259 => (go_simp; done)
  case ch1R259 =>
    intro ds w' hS K hK
    have hm := reachKeeps C1 hf hS
    obtain ⟨x1, x2, x3, x4, x5⟩ := hm
    obtain ⟨z0, z1, z2, zz3, zz4, zf⟩ := blk5c x3
    have d0 := x1.cell 0
    have c0 := x2.cell 0
    have lq := x3.lt
    have lz := x1.lt
    have lz4 := x2.lt
    go_simp
    try go_bits
    exact hK _ hS (Gr.refl _)
  case ca1R259 => (first | (simp [Act.put]; done) | (simp [Act.put, *]; done))
  try dsimp only
  refine wpW_det (t' := ?ct2R259) 2 (by rfl) (by kernel_rfl) (NQ_free _) (by kernel_rfl) ?cw2R259 ?ch2R259 ?ca2R259 (Eq.refl _) ?cH2R259
  case cw2R259 => (go_simp; done)
  case ch2R259 =>
    intro ds w' hS K hK
    have hm := reachKeeps C1 hf hS
    obtain ⟨x1, x2, x3, x4, x5⟩ := hm
    obtain ⟨z0, z1, z2, zz3, zz4, zf⟩ := blk5c x3
    have d0 := x1.cell 0
    have c0 := x2.cell 0
    have lq := x3.lt
    have lz := x1.lt
    have lz4 := x2.lt
    go_simp
    try go_bits
    exact hK _ hS (Gr.refl _)
  case ca2R259 => (first | (simp [Act.put]; done) | (simp [Act.put, *]; done))
  try dsimp only
  refine wpW_det (t' := ?ct3R259) 3 (by rfl) (by kernel_rfl) (NQ_free _) (by kernel_rfl) ?cw3R259 ?ch3R259 ?ca3R259 (Eq.refl _) ?cH3R259
  case cw3R259 => (go_simp; done)
  case ch3R259 =>
    intro ds w' hS K hK
    have hm := reachKeeps C1 hf hS
    obtain ⟨x1, x2, x3, x4, x5⟩ := hm
    obtain ⟨z0, z1, z2, zz3, zz4, zf⟩ := blk5c x3
    have d0 := x1.cell 0
    have c0 := x2.cell 0
    have lq := x3.lt
    have lz := x1.lt
    have lz4 := x2.lt
    go_simp
    try go_bits
    exact hK _ hS (Gr.refl _)
  case ca3R259 => (first | (simp [Act.put]; done) | (simp [Act.put, *]; done))
  try dsimp only
  refine wpW_det (t' := ?ct4R259) 4 (by rfl) (by kernel_rfl) (NQ_free _) (by kernel_rfl) ?cw4R259 ?ch4R259 ?ca4R259 (Eq.refl _) ?cH4R259
  case cw4R259 => (go_simp; done)
  case ch4R259 =>
    intro ds w' hS K hK
    have hm := reachKeeps C1 hf hS
    obtain ⟨x1, x2, x3, x4, x5⟩ := hm
    obtain ⟨z0, z1, z2, zz3, zz4, zf⟩ := blk5c x3
    have d0 := x1.cell 0
    have c0 := x2.cell 0
    have lq := x3.lt
    have lz := x1.lt
    have lz4 := x2.lt
    go_simp
    try go_bits
    exact hK _ hS (Gr.refl _)
  case ca4R259 => (first | (simp [Act.put]; done) | (simp [Act.put, *]; done))
  try dsimp only
  refine wpW_det (t' := ?ct5R259) 5 (by rfl) (by kernel_rfl) (NQ_free _) (by kernel_rfl) ?cw5R259 ?ch5R259 ?ca5R259 (Eq.refl _) ?cH5R259
  case cw5R259 => (go_simp; done)
  case ch5R259 =>
    intro ds w' hS K hK
    have hm := reachKeeps C1 hf hS
    obtain ⟨x1, x2, x3, x4, x5⟩ := hm
    obtain ⟨z0, z1, z2, zz3, zz4, zf⟩ := blk5c x3
    have d0 := x1.cell 0
    have c0 := x2.cell 0
    have lq := x3.lt
    have lz := x1.lt
    have lz4 := x2.lt
    go_simp
    try go_bits
    exact hK _ hS (Gr.refl _)
  case ca5R259 => (first | (simp [Act.put]; done) | (simp [Act.put, *]; done))
  try dsimp only
  refine wpW_det (t' := ?ct6R259) 6 (by rfl) (by kernel_rfl) (NQ_free _) (by kernel_rfl) ?cw6R259 ?ch6R259 ?ca6R259 (Eq.refl _) ?cH6R259
  case cw6R259 => (go_simp; done)
  case ch6R259 =>
    intro ds w' hS K hK
    have hm := reachKeeps C1 hf hS
    obtain ⟨x1, x2, x3, x4, x5⟩ := hm
    obtain ⟨z0, z1, z2, zz3, zz4, zf⟩ := blk5c x3
    have d0 := x1.cell 0
    have c0 := x2.cell 0
    have lq := x3.lt
    have lz := x1.lt
    have lz4 := x2.lt
    go_simp
    try go_bits
    exact hK _ hS (Gr.refl _)
  case ca6R259 => (first | (simp [Act.put]; done) | (simp [Act.put, *]; done))
  try dsimp only
  refine wpW_det (t' := ?ct7R259) 7 (by rfl) (by kernel_rfl) (NQ_free _) (by kernel_rfl) ?cw7R259 ?ch7R259 ?ca7R259 (Eq.refl _) ?cH7R259
  case cw7R259 => (go_simp; done)
  case ch7R259 =>
    intro ds w' hS K hK
    have hm := reachKeeps C1 hf hS
    obtain ⟨x1, x2, x3, x4, x5⟩ := hm
    obtain ⟨z0, z1, z2, zz3, zz4, zf⟩ := blk5c x3
    have d0 := x1.cell 0
    have c0 := x2.cell 0
    have lq := x3.lt
    have lz := x1.lt
    have lz4 := x2.lt
    go_simp
    try go_bits
    exact hK _ hS (Gr.refl _)
  case ca7R259 => (first | (simp [Act.put]; done) | (simp [Act.put, *]; done))
  try dsimp only
  refine wpW_det (t' := ?ct8R259) 8 (by rfl) (by kernel_rfl) (NQ_free _) (by kernel_rfl) ?cw8R259 ?ch8R259 ?ca8R259 (Eq.refl _) ?cH8R259
  case cw8R259 => (go_simp; done)
  case ch8R259 =>
    intro ds w' hS K hK
    have hm := reachKeeps C1 hf hS
    obtain ⟨x1, x2, x3, x4, x5⟩ := hm
    obtain ⟨z0, z1, z2, zz3, zz4, zf⟩ := blk5c x3
    have d0 := x1.cell 0
    have c0 := x2.cell 0
    have lq := x3.lt
    have lz := x1.lt
    have lz4 := x2.lt
    go_simp
    try go_bits
    exact hK _ hS (Gr.refl _)
  case ca8R259 => (first | (simp [Act.put]; done) | (simp [Act.put, *]; done))
  try dsimp only
  refine wpW_branch [9] (by kernel_rfl) (by simp) ?_
  intro v1 hg_v1 hS_v1
  refine each_cons ?_ each_nil
  refine wpOp_go (by rfl) (Eq.refl _) (by go_simp; done) ?_
  intro K hK
  go_simp
  try simp only [Act.put]
  refine (HC'.out v1 (C1.gr hg_v1)).mono ?_
  rintro e ws ⟨⟨v, rfl⟩, hFs, hPs⟩
  refine hK _ _ (.inr ⟨(Fr3.gr hg_v1).trans hFs, hPs⟩) ?_
  refine wpW_end (by kernel_rfl) ?_
  intro we hg hS
  unfold NQ
  dsimp only
  exact H.out _ _ _ _ _ _ _ _ _ _ we (hFr.trans ((Fr3.gr hg_v1).trans (hFs.trans (Fr3.gr hg)))) (hP hg hPs)
end Go.Proofs.YtidgeagpgllkeaaGreat

namespace Go.Proofs.YtidgeagpgllkeaaGreat
open Go.RowKit Go.Shelf

attribute [local go_sem] Oper.semAt_some

set_option maxRecDepth 100000 in
set_option maxHeartbeats 16000000 in
theorem reach_any (V : World) (rb mb fb q p0 p1 b0 b1 B : Nat) (l0 l1 : List Mk) (A0 A1 : Option Addr) (c0 c1 : Nat) (slack : Int) (T F : List Int) (h0 : Row V B 6 A0 l0.length (mksC l0)) (h1 : Row V B 6 A1 l1.length (mksC l1)) (hB : B ≤ V.heap.size) (HS0 : Hid (∀ m ∈ l0, MkS m)) (HS1 : Hid (∀ m ∈ l1, MkS m)) (hn0 : l0.length ≤ 1000) (hn1 : l1.length ≤ 1000)
    (D : Nat → Prop) (HD : Hid (Dead (relV l0 l1 slack) l1.length (ofL F) D)) (HF : Hid (∀ (k : Nat) (x : Int), F[k]? = some x → x < (l0.length : Int))) :
    ∀ (f i : Nat) (X Y : List Bool) (w : World), i < l0.length → restX X < f → (∀ x : Nat, x < l1.length → (relV l0 l1 slack) (i : Int) (x : Int) = true → D x) → ReC V rb mb fb q p0 p1 b0 b1 l0.length l1.length (.slice A0 l0.length c0) (.slice A1 l1.length c1) slack T F X Y w →
    Calls Tryz.prog 162 #[.int .i64 i, .pointer (some ⟨rb, 0, none⟩), .pointer (some ⟨mb, 0, none⟩), .pointer (some ⟨fb, 0, none⟩)] w fun e w' => (∃ v, e = .returned v) ∧ Fr3 b0 b1 b1 w w' ∧ ∃ X' Y', ReC V rb mb fb q p0 p1 b0 b1 l0.length l1.length (.slice A0 l0.length c0) (.slice A1 l1.length c1) slack T F X' Y' w' ∧ RchS (relV l0 l1 slack) l1.length (ofL F) D X Y X' Y' ∧ isT X' i := by
  intro f
  induction f with
  | zero => intro i X Y w _ h; omega
  | succ f ih =>
  intro i X Y w hi hrest hDi C
  have IH := Lib.hid ih
  have HDI := Lib.hid hDi
  clear ih hDi
  have i1 : ((i : Int) < (l0.length : Int)) := by omega
  obtain ⟨g0, g1, gf⟩ := blk2c C.rbx
  have lg := C.rbx.lt
  obtain ⟨b, hb⟩ : ∃ b, X[i]? = some b := ⟨X[i]'(by rw [C.x.len]; exact hi), List.getElem?_eq_getElem _⟩
  have v0 := C.x.cell hb
  have vl := C.x.lt
  have vf := C.x.frozen i
  refine callsIn_wide.1 (callsIn_of_wp_marks (F := Fence.wide) (n := 5) Tryz.func162 rfl trivial (wpIn_wide.2 ?_) rfl)
  simp only [Tryz.ntmps162, List.size_toArray, List.length_cons, List.length_nil, Nat.reduceAdd, Nat.reduceSub, Array.replicate_succ, Array.replicate_zero, List.push_toArray, List.append_toArray, List.nil_append, List.cons_append]
  cases b
  case true =>
    have HBT := Lib.hid hb
    clear hb
    go_wp2
    refine ret_marks (n₀ := w.heap.size) (Marks.nil _ _) fun w' hs => ⟨.tuple #[], results_none rfl _ _ _, ⟨_, rfl⟩, (Fr3.refl _ _ _ w).then_ hs.below (Nat.le_refl _), X, Y, C.shut hs C.m.vsize, RchS.refl _ _ _ _ _ _, HBT.out⟩
  have HB := Lib.hid hb
  have hlx := C.x.len
  have hr2 := restX_set hb
  have CW := C.put0 i true
  have hFrW : Fr3 b0 b1 b1 w (w.setCell ⟨b0, i, none⟩ (.bool true)) := Fr3.set0 _ _ _
  have hzW : (w.setCell ⟨b0, i, none⟩ (.bool true)).heap.size = w.heap.size := by simp
  clear hb
  have u2 := CW.mbx.cell 0
  have u2l := CW.mbx.lt
  have HRX : Hid (restX (X.set i true) < f) := Lib.hid (by omega)
  clear hrest hr2
  go_wp2_with fail
  obtain ⟨W, hW⟩ : ∃ W, w.setCell ⟨b0, i, none⟩ (.bool true) = W := ⟨_, rfl⟩
  rw [hW] at CW hFrW hzW u2 u2l ⊢
  clear hW g0 g1 gf lg v0 vl vf
  refine (like_any q (i : Int) W).mono ?_
  rintro e wb ⟨rfl, hwb⟩
  have hgB : Gr W wb := by rw [← hwb]; exact ((Below.refl _ _).alloc (Nat.le_refl _) _).alloc (by simp) _
  have bm : Blk wb W.heap.size 195 #[.pointer (some ⟨q, 0, none⟩)] := by rw [← hwb]; exact (Blk.new W 195 #[.pointer (some ⟨q, 0, none⟩)]).alloc _
  have bj : Blk wb (W.heap.size + 1) 3 #[.int .i64 (i : Int)] := by
    have := Blk.new (W.alloc (.cells #[.pointer (some ⟨q, 0, none⟩)] 195)) 3 #[.int .i64 (i : Int)]
    rw [World.size_alloc] at this
    rw [← hwb]; exact this
  have hwbz : wb.heap.size = W.heap.size + 1 + 1 := by rw [← hwb]; simp
  rw [hzW] at bm bj hwbz ⊢
  clear hwb u2 u2l
  have CB := CW.gr hgB
  have hFrB : Fr3 b0 b1 b1 w wb := hFrW.trans (Fr3.gr hgB)
  have hlr := C.rbx.lt
  have hlm := C.mbx.lt
  have hlf := C.fbx.lt
  have hlq := C.m.box.lt
  have hl0 := C.m.r0.lt
  have hl1 := C.m.r1.lt
  have hlb0 := C.x.lt
  have hlb1 := C.y.lt
  have hlV := C.m.vsize
  have hlow0 := C.x.low
  have hlow1 := C.y.low
  have hlow := C.m.low
  have hV1 := CB.m.r0.below
  have lm : LkM w.heap.size (w.heap.size + 1) q B i l0 l1 A0 A1 c0 c1 slack wb := ⟨bm.cell 0, bj.cell 0, CB.m.box.cell 0, CB.m.box.cell 1, CB.m.box.cell 2, h0.below hV1 hB, h1.below hV1 hB, by omega⟩
  have HSS : Hid (MkS (l0[i]?.getD mkZ) ∧ ∀ m ∈ l1, MkS m) := Lib.hid ⟨by rw [List.getElem?_eq_getElem hi]; exact HS0.out _ (List.getElem_mem hi), HS1.out⟩
  clear bm bj hgB hV1
  dsimp only
  go_wp2_with fail
  refine wpIn_wide.1 (wpIn_rangeFunc_ownH (n := 5) rfl (by omega) (gf := 159) (lb := #[.pointer (some ⟨w.heap.size, 0, none⟩), .pointer (some ⟨w.heap.size + 1, 0, none⟩)]) rfl trivial (enters_of Tryz.func159 (by kernel_rfl) rfl)
    (like_stops 4 (by omega) w.heap.size (w.heap.size + 1) q B l0 l1 A0 A1 c0 c1 i slack hi hn1 hn0 HSS wb lm) KL.trans (fun W l o o' hl _ _ _ => ⟨World.putObj_heap_other (by omega), World.putObj_heap_other (by omega), World.putObj_heap_other (by omega), fun k hk => World.putObj_heap_other (by omega), by simp⟩) (Below.refl _ _) (fun _ => rfl)
    (fun pre W => ∃ X2 Y2, Fr3 b0 b1 b1 wb W ∧ ReC V rb mb fb q p0 p1 b0 b1 l0.length l1.length (.slice A0 l0.length c0) (.slice A1 l1.length c1) slack T F X2 Y2 W ∧ RchS (relV l0 l1 slack) l1.length (ofL F) D (X.set i true) Y X2 Y2 ∧ ∀ x ∈ pre, isT Y2 x.1)
    (fun c pre W => False) ?hI (fun _ _ _ _ _ hs _ _ => hs) ?h0
    (fun x a' W => a' = ⟨#[.int .i64 i, .pointer (some ⟨rb, 0, none⟩), .pointer (some ⟨mb, 0, none⟩), .pointer (some ⟨fb, 0, none⟩), undef, .int .i64 (x.1 : Int), .pointer (some ⟨rb, 0, none⟩), .slice (some ⟨b0, 0, none⟩) l0.length l0.length, .int .i64 i, .pointer (some ⟨b0, i, none⟩), .bool false, .pointer (some ⟨rb, 0, none⟩), .slice (some ⟨b0, 0, none⟩) l0.length l0.length, .int .i64 i, .pointer (some ⟨b0, i, none⟩), .pointer (some ⟨q, 0, none⟩), .int .i64 i, .func (.func 159) #[] #[.pointer (some ⟨w.heap.size, 0, none⟩), .pointer (some ⟨w.heap.size + 1, 0, none⟩)], .int .i64 (x.1 : Int), undef, undef, undef, undef, undef, undef, undef, undef, undef, undef, undef, undef, undef, undef, undef, undef, undef, undef, undef, undef, undef, undef, undef], []⟩) ?hAx ?assign ?body ?done ?stop)
  case hI =>
    rintro pre X' Y' row ⟨X2, Y2, h1, h2, h3, h4⟩ hg hr
    have hbl : Below wb.heap.size X' Y' := ⟨hg.os, hg.tape, hg.output, hg.size, fun k hk => hg.block k (Nat.lt_of_lt_of_le hk h1.size) (fun e => by have := (hr k e.symm).1; omega)⟩
    exact ⟨X2, Y2, h1.then_ hbl (Nat.le_refl _), h2.under hbl (by omega) (by omega) (by omega) (by omega) (by omega) (by omega) (by omega) (by omega), h3, h4⟩
  case h0 => exact ⟨_, _, Fr3.refl _ _ _ _, CB, RchS.refl _ _ _ _ _ _, fun x h => by cases h⟩
  case hAx => exact fun x a' _ X Y row h _ _ => h
  case assign =>
    intro l pre x W K hIp hK
    dsimp only [List.zip_cons_cons]
    gi_wp2
    exact hK _ _ (KeepsFrom.refl _ _) (KL.refl _ _ _ _ _) hIp rfl
  case body =>
    rintro l pre x a' W hl hrl ⟨X2, Y2, hFr, CW2, hRS, hpre⟩ rfl hN
    obtain ⟨x, hxl, hxr⟩ := x
    dsimp only
    have hWz : wb.heap.size ≤ W.heap.size := hFr.size
    have HXR : Hid ((relV l0 l1 slack) (i : Int) (x : Int) = true) := Lib.hid (by rw [← likeR_rel]; exact hxr)
    have HDX : Hid (D x) := Lib.hid (HDI.out x hxl HXR.out)
    have hdd := HD.out.on x HDX.out
    obtain ⟨o, ho⟩ : ∃ o, F[x]? = some o := ⟨F[x]'(by rw [CW2.m.r1.len]; exact hxl), List.getElem?_eq_getElem _⟩
    have hof := ofL_at ho
    rw [hof] at hdd
    obtain ⟨j, rfl⟩ : ∃ j : Nat, o = (j : Int) := ⟨o.toNat, by have := hdd.2.1; omega⟩
    have hj : j < l0.length := by have := HF.out x _ ho; omega
    have HDJ : Hid (∀ y : Nat, y < l1.length → (relV l0 l1 slack) (j : Int) (y : Int) = true → D y) := Lib.hid hdd.2.2
    have x1 : ((x : Int) < (l1.length : Int)) := by omega
    obtain ⟨y, hy⟩ : ∃ y, Y2[x]? = some y := ⟨Y2[x]'(by rw [CW2.y.len]; exact hxl), List.getElem?_eq_getElem _⟩
    have HYL : x < Y2.length := by rw [CW2.y.len]; exact hxl
    have HRS := Lib.hid hRS
    have HPRE := Lib.hid hpre
    have HO := Lib.hid ho
    have HOF := Lib.hid hof
    obtain ⟨g0, g1, gf⟩ := blk2c CW2.rbx
    have lg := CW2.rbx.lt
    have v0 := CW2.y.cell hy
    have vl := CW2.y.lt
    have vf := CW2.y.frozen x
    have C3 := CW2.put1 x true
    have hFr3 : Fr3 b0 b1 b1 wb (W.setCell ⟨b1, x, none⟩ (.bool true)) := hFr.trans (Fr3.set1 _ _ _)
    have u2 := C3.mbx.cell 0
    have u2l := C3.mbx.lt
    obtain ⟨m0, m1, m2, m3, m4, mf⟩ := blk5c C3.m.box
    have lq := C3.m.box.lt
    have w1 := C3.m.r1.cell ho
    have w1l := C3.m.r1.lt
    have hge : (0 : Int) ≤ (j : Int) := by omega
    clear hRS hpre hdd hof ho hy hN
    gi_upto_region 6 with (refine ⟨trivial, ?_⟩)
    refine reachReg6 (Post := fun W' => ∃ X3 Y4, ReC V rb mb fb q p0 p1 b0 b1 l0.length l1.length (.slice A0 l0.length c0) (.slice A1 l1.length c1) slack T F X3 Y4 W' ∧ RchS (relV l0 l1 slack) l1.length (ofL F) D X2 (Y2.set x true) X3 Y4 ∧ isT X3 j) C3 hxl HO.out (fun hg ⟨X3, Y4, h1, h2, h3⟩ => ⟨X3, Y4, h1.gr hg, h2, h3⟩) (fun W' C' => IH.out j X2 (Y2.set x true) W' hj (Nat.lt_of_le_of_lt (restX_mono (by rw [C'.x.len, List.length_set, hlx]) HRS.out.up0) HRX.out) HDJ.out C') _ ?_
    intro t32 t33 t34 t35 t36 t37 t38 t39 t40 t41 W5 hFr5 hP5
    obtain ⟨X3, Y4, C5, hS5, hT5⟩ := hP5
    have hFr5' : Fr3 b0 b1 b1 wb W5 := hFr3.trans hFr5
    have hFrW5 : Fr3 b0 b1 b1 W W5 := (Fr3.set1 _ _ _ : Fr3 b0 b1 b1 W (W.setCell ⟨b1, x, none⟩ (.bool true))).trans hFr5
    obtain ⟨hN1, hN2⟩ := HRS.out.step HYL HDX.out hS5 (by rw [HOF.out]; exact hT5)
    have hq0 := CW2.x.neb CW2.m.box (by decide)
    have hq1 := CW2.y.neb CW2.m.box (by decide)
    have hqlt := CW2.m.box.lt
    have HN := Lib.hid (And.intro hN1 hN2)
    have HUP : Hid (∀ k, isT Y2 k → isT Y4 k) := Lib.hid (fun k h => hS5.up1 k ((isT_set HYL).2 (.inr h)))
    clear hN1 hN2 hS5 hT5 g0 g1 gf lg v0 vl vf u2 u2l m0 m1 m2 m3 m4 mf lq w1 w1l
    try gi_wp2
    refine ⟨hFrW5.from_ (by omega) (by omega) (by omega), ⟨hFrW5.at_ _ (by omega) (by omega) (by omega) (by omega), hFrW5.at_ _ (by omega) (by omega) (by omega) (by omega), hFrW5.at_ _ hqlt hq0 hq1 hq1, fun k hk => hFrW5.at_ _ (by omega) (by omega) (by omega) (by omega), hFrW5.size⟩, X3, Y4, hFr5', C5, HN.out.1, fun y hy => ?_⟩
    rcases List.mem_append.1 hy with hy | hy
    · exact HUP.out _ (HPRE.out y hy)
    · obtain rfl := List.mem_singleton.1 hy
      exact HN.out.2
  case done =>
    rintro Dk xs W hD hxs ⟨X2, Y2, hFr, CW2, hRS, hpre⟩ hdf
    have HMC : Hid (Marks w.heap.size [Dk] W) := Lib.hid ((Marks.nil _ _).cons (fun _ h => by cases h) hD (by omega) hdf)
    obtain ⟨hc1, hc2⟩ := RchS.close (by rw [hlx]; exact hi) hRS (fun x hx hR => by
      have hm : x ∈ likeV (likeR l0 l1 i slack) l1.length := mem_likeV.2 ⟨hx, by rw [likeR_rel]; exact hR⟩
      rw [← hxs] at hm
      obtain ⟨y, hy, rfl⟩ := List.mem_map.1 hm
      exact hpre y hy)
    have HC := Lib.hid (And.intro hc1 hc2)
    clear hc1 hc2 hRS hpre hxs hdf
    dsimp only
    go_wp2
    refine ret_marks (n₀ := w.heap.size) (Ds := [Dk]) HMC.out fun w' hs => ⟨.tuple #[], results_none rfl _ _ _, ⟨_, rfl⟩, (hFrB.trans hFr).then_ hs.below (Nat.le_refl _), X2, Y2, CW2.shut hs (by omega), HC.out.1, HC.out.2⟩
  case stop => exact fun _ _ _ _ _ _ h _ => h.elim
end Go.Proofs.YtidgeagpgllkeaaGreat

namespace Go.Proofs.YtidgeagpgllkeaaGreat
open Go.RowKit Go.Shelf

/-- The members of a cover so far, and what has been reached. -/
structure CvM (V w : World) (z b0 b1 N M : Nat) (X Y : List Bool) (vF vS : Value) (Fl Sl : List Int) (W : World) : Prop where
  x : BoM V b0 N X W
  y : BoM V b1 M Y W
  box : Blk W z 126 #[vF, vS]
  f : W.ownsRow w.heap.size 3 1 vF Fl.length (intsC Fl)
  s : W.ownsRow w.heap.size 3 1 vS Sl.length (intsC Sl)
  ne : ∀ b, vF.ownBlock = some b → vS.ownBlock ≠ some b
  below : Below w.heap.size w W
  vlow : V.heap.size ≤ w.heap.size
  zlow : w.heap.size ≤ z
section
variable {V w W W' : World} {z b0 b1 N M : Nat} {X Y : List Bool} {vF vS v' : Value} {Fl Sl : List Int} {x : Int}
theorem CvM.gr (h : CvM V w z b0 b1 N M X Y vF vS Fl Sl W) (g : Gr W W') : CvM V w z b0 b1 N M X Y vF vS Fl Sl W' := ⟨h.x.gr g, h.y.gr g, h.box.gr g, own_below h.f g, own_below h.s g, h.ne, h.below.trans (Below.mono g (Below.size h.below)), h.vlow, h.zlow⟩
theorem ne_own {p n m B : Nat} {X : List Bool} {v : Value} {L : List Int} (h : BoM V p n X W) (k : W.ownsRow B 3 1 v m (intsC L)) : some p ≠ v.ownBlock := fun e => by
  rcases own_two' k h.own (by decide) with h1 | h1
  · rw [h1] at e; cases e
  · exact h1 (by rw [← e]; rfl)
theorem BoM.kept {p n : Nat} {X : List Bool} {row : Option Nat} (h : BoM V p n X W) (hg : W.grownBy W' row) (hr : ∀ r, row = some r → V.heap.size ≤ r) (hne : some p ≠ row) : BoM V p n X W' := h.at_ (h.below.grown hg (Below.size h.below) hr) (hg.block p h.lt hne)
theorem CvM.addF (h : CvM V w z b0 b1 N M X Y vF vS Fl Sl W) (ho : W'.ownsRow w.heap.size 3 1 v' (Fl.length + 1) (intsC Fl ++ [.int .i64 x])) (hg : W.grownBy W' vF.ownBlock) (hob : v'.ownBlock = vF.ownBlock ∨ v'.ownBlock = some W.heap.size) : CvM V w z b0 b1 N M X Y v' vS (Fl ++ [x]) Sl (W'.setCell ⟨z, 0, none⟩ v') := by
  have hV := h.vlow
  have hlow : ∀ r, vF.ownBlock = some r → w.heap.size ≤ r := fun r e => (h.f.lt r e).1
  rw [intsC_put] at ho
  have hl : (Fl ++ [x]).length = Fl.length + 1 := by simp
  obtain ⟨hs, hne⟩ := TwoI.addF (w := w) (Fl := Fl) h.f h.s h.ne ho hg hob
  have hx := h.x.kept hg (fun r e => Nat.le_trans hV (hlow r e)) (ne_own h.x h.f)
  have hy := h.y.kept hg (fun r e => Nat.le_trans hV (hlow r e)) (ne_own h.y h.f)
  have hb := h.box.grown hg (fun e => own_blk_ne h.f h.box (by decide) e.symm)
  refine ⟨hx.at_ (hx.below.setCell (by simp only; have := h.zlow; omega) _) (Below.heap_setCell _ _ _ _ (fun e => hx.neb hb (by decide) e.symm)), hy.at_ (hy.below.setCell (by simp only; have := h.zlow; omega) _) (Below.heap_setCell _ _ _ _ (fun e => hy.neb hb (by decide) e.symm)), hb.set_ 0 v', ?_, ?_, hne, (h.below.grown hg (Below.size h.below) hlow).setCell h.zlow _, hV, h.zlow⟩
  · rw [hl]; exact ownsRow_setCell_other ho (own_blk_ne ho hb (by decide)) _
  · exact ownsRow_setCell_other hs (own_blk_ne hs hb (by decide)) _
theorem CvM.addS (h : CvM V w z b0 b1 N M X Y vF vS Fl Sl W) (ho : W'.ownsRow w.heap.size 3 1 v' (Sl.length + 1) (intsC Sl ++ [.int .i64 x])) (hg : W.grownBy W' vS.ownBlock) (hob : v'.ownBlock = vS.ownBlock ∨ v'.ownBlock = some W.heap.size) : CvM V w z b0 b1 N M X Y vF v' Fl (Sl ++ [x]) (W'.setCell ⟨z, 1, none⟩ v') := by
  have hV := h.vlow
  have hlow : ∀ r, vS.ownBlock = some r → w.heap.size ≤ r := fun r e => (h.s.lt r e).1
  rw [intsC_put] at ho
  have hl : (Sl ++ [x]).length = Sl.length + 1 := by simp
  obtain ⟨hs, hne⟩ := TwoI.addF (w := w) (Fl := Sl) h.s h.f (fun b h1 h2 => h.ne b h2 h1) ho hg hob
  have hx := h.x.kept hg (fun r e => Nat.le_trans hV (hlow r e)) (ne_own h.x h.s)
  have hy := h.y.kept hg (fun r e => Nat.le_trans hV (hlow r e)) (ne_own h.y h.s)
  have hb := h.box.grown hg (fun e => own_blk_ne h.s h.box (by decide) e.symm)
  refine ⟨hx.at_ (hx.below.setCell (by simp only; have := h.zlow; omega) _) (Below.heap_setCell _ _ _ _ (fun e => hx.neb hb (by decide) e.symm)), hy.at_ (hy.below.setCell (by simp only; have := h.zlow; omega) _) (Below.heap_setCell _ _ _ _ (fun e => hy.neb hb (by decide) e.symm)), hb.set_ 1 v', ?_, ?_, fun b h1 h2 => hne b h2 h1, (h.below.grown hg (Below.size h.below) hlow).setCell h.zlow _, hV, h.zlow⟩
  · exact ownsRow_setCell_other hs (own_blk_ne hs hb (by decide)) _
  · rw [hl]; exact ownsRow_setCell_other ho (own_blk_ne ho hb (by decide)) _
end
def atB (X : List Bool) : Nat → Bool := fun a => X[a]?.getD false
theorem atB_at {X : List Bool} {k : Nat} {x : Bool} (h : X[k]? = some x) : atB X k = x := by unfold atB; rw [h]; rfl

set_option maxRecDepth 100000 in
set_option maxHeartbeats 8000000 in
theorem coverLoop2 {V w wr0 : World} {z b0 b1 N M : Nat} {X Y : List Bool} {vF vS : Value} {Sl : List Int} (hN : N ≤ 1000) (C : CvM V w z b0 b1 N M X Y vF vS (numsV 0 (fun a => !atB X a)) Sl wr0) {t0 t1 t2 t3 t4 t5 t6 t7 t8 t10 t11 t12 t13 t14 t15 t16 t17 t18 t19 t20 t21 t22 t23 t24 t25 t26 t27 t28 t29 t30 t31 t32 t33 t34 t35 t36 t37 t38 t39 t40 t41 t42 t43 t44 t45 t46 t50 t51 t52 t53 t54 t55 t56 t57 t58 t59 t60 t61 t62 t63 t64 t65 t66 t67 t68 t69 t70 t71 t72 t73 t74 t75 t76 t77 t78 t79 : Value} {ds : List Deferred} (Q' : Exit → Act → World → Prop)
    (h : ∀ (t10 t11 t49 t50 t51 t52 t53 t54 t55 t56 t57 t58 t59 t60 t61 t62 : Value) (uF uS : Value) (w' : World), CvM V w z b0 b1 N M X Y uF uS (numsV N (fun a => !atB X a)) Sl w' → Q' (.exit 4) ⟨#[t0, t1, t2, t3, t4, t5, t6, t7, t8, .pointer (some ⟨z, 0, none⟩), t10, t11, t12, t13, t14, t15, t16, t17, t18, t19, t20, t21, t22, t23, t24, t25, t26, t27, t28, t29, t30, t31, t32, t33, t34, t35, t36, t37, t38, t39, t40, t41, t42, t43, t44, t45, t46, .slice (some ⟨b0, 0, none⟩) N N, .int .i64 N, t49, t50, t51, t52, t53, t54, t55, t56, t57, t58, t59, t60, t61, t62, t63, t64, t65, t66, t67, t68, t69, t70, t71, t72, t73, t74, t75, t76, t77, t78, t79], ds⟩ w') :
    (Code.loop (bodyOf Tryz.f138 2)).wp Tryz.prog Q' ⟨#[t0, t1, t2, t3, t4, t5, t6, t7, t8, .pointer (some ⟨z, 0, none⟩), t10, t11, t12, t13, t14, t15, t16, t17, t18, t19, t20, t21, t22, t23, t24, t25, t26, t27, t28, t29, t30, t31, t32, t33, t34, t35, t36, t37, t38, t39, t40, t41, t42, t43, t44, t45, t46, .slice (some ⟨b0, 0, none⟩) N N, .int .i64 N, .int .i64 0, t50, t51, t52, t53, t54, t55, t56, t57, t58, t59, t60, t61, t62, t63, t64, t65, t66, t67, t68, t69, t70, t71, t72, t73, t74, t75, t76, t77, t78, t79], ds⟩ wr0 := by
  have H := Lib.hid h; clear h
  obtain ⟨i0, hi, hz0, hz1, hz2⟩ := info_parts infoInt
  conv in (bodyOf _ _) => whnf
  dsimp only
  go_loopw [49] (fun s49 wr => ∃ (i : Nat) (vF vS : Value), i ≤ N ∧ s49 = .int .i64 i ∧ CvM V w z b0 b1 N M X Y vF vS (numsV i (fun a => !atB X a)) Sl wr) (fun s49 _ => N - (intOf s49).toNat)
  case atStart => exact ⟨0, vF, vS, Nat.zero_le _, by go_num, C⟩
  case round =>
    clear C
    obtain ⟨i, vF, vS, hle, rfl, C⟩ := hrel
    by_cases hlt : i < N
    · have i1 : ((i : Int) < (N : Int)) := by omega
      obtain ⟨b, hb⟩ : ∃ b, X[i]? = some b := ⟨X[i]'(by rw [C.x.len]; exact hlt), List.getElem?_eq_getElem _⟩
      have v0 := C.x.cell hb
      have vl := C.x.lt
      have hab := atB_at hb
      have hsu := numsV_succ i (fun a => !atB X a)
      have hle2 := numsV_le i (fun a => !atB X a)
      have hzb := Below.size C.below
      cases b
      case true =>
        rw [if_neg (by simp [hab]), List.append_nil] at hsu
        have HSU := Lib.hid hsu
        clear hsu hab hb
        go_wp2
        exact ⟨⟨i + 1, vF, vS, by omega, by go_num, by rw [HSU.out]; exact C⟩, by simp [intOf]; omega⟩
      case false =>
        rw [if_pos (by simp [hab])] at hsu
        have HSU := Lib.hid hsu
        obtain ⟨c0, c1, cf⟩ := blk2c C.box
        have lz := C.box.lt
        have CA := C.gr (show Gr wr (wr.alloc (.cells #[.int .i64 (i : Int)] 3)) from (Below.refl _ _).alloc (Nat.le_refl _) _)
        clear hsu hab hb
        go_wp2_with (at_builtin; refine wpList_append_own_at _ rfl _ _ 37 rfl w.heap.size 3 i0 (.int .i64 0) 1 8 Tryz.underlying37 hi hz0 hz1 hz2 rfl (by decide) _ _ _ rfl CA.f ⟨wr.heap.size, 0, none⟩ 1 1 [.int .i64 i] rfl rfl (cell_one_new _ _ _) (by simp [Value.oneCell']) (by unfold maxLen; omega) (by omega) (by simp; omega) ?_; intro v2 W5 hown' hgrow _ hob; obtain ⟨g5, cap5, rfl⟩ := ownsRow_succ hown'; have CN := CA.addF hown' hgrow hob; have b9 := CA.box.grown hgrow (fun e => own_blk_ne CA.f CA.box (by decide) e.symm); obtain ⟨e0, e1, ef⟩ := blk2c b9; have l9 := b9.lt)
        rw [← HSU.out] at CN
        exact ⟨⟨i + 1, _, _, by omega, by go_num, CN⟩, by simp [intOf]; omega⟩
    · obtain rfl : i = N := by omega
      go_wp2
      exact H.out _ _ _ _ _ _ _ _ _ _ _ _ _ _ _ _ vF vS wr C

set_option maxRecDepth 100000 in
set_option maxHeartbeats 8000000 in
theorem coverLoop3 {V w wr0 : World} {z b0 b1 N M : Nat} {X Y : List Bool} {vF vS : Value} {Fl : List Int} (hN : M ≤ 1000) (C : CvM V w z b0 b1 N M X Y vF vS Fl (numsV 0 (atB Y)) wr0) {t0 t1 t2 t3 t4 t5 t6 t7 t8 t10 t11 t12 t13 t14 t15 t16 t17 t18 t19 t20 t21 t22 t23 t24 t25 t26 t27 t28 t29 t30 t31 t32 t33 t34 t35 t36 t37 t38 t39 t40 t41 t42 t43 t44 t45 t46 t47 t48 t49 t50 t51 t52 t53 t54 t55 t56 t57 t58 t59 t60 t61 t62 t63 t67 t68 t69 t70 t71 t72 t73 t74 t75 t76 t77 t78 t79 : Value} {ds : List Deferred} (Q' : Exit → Act → World → Prop)
    (h : ∀ (t12 t13 t66 t67 t68 t69 t70 t71 t72 t73 t74 t75 t76 t77 t78 : Value) (uF uS : Value) (w' : World), CvM V w z b0 b1 N M X Y uF uS Fl (numsV M (atB Y)) w' → Q' (.exit 6) ⟨#[t0, t1, t2, t3, t4, t5, t6, t7, t8, .pointer (some ⟨z, 0, none⟩), t10, t11, t12, t13, t14, t15, t16, t17, t18, t19, t20, t21, t22, t23, t24, t25, t26, t27, t28, t29, t30, t31, t32, t33, t34, t35, t36, t37, t38, t39, t40, t41, t42, t43, t44, t45, t46, t47, t48, t49, t50, t51, t52, t53, t54, t55, t56, t57, t58, t59, t60, t61, t62, t63, .slice (some ⟨b1, 0, none⟩) M M, .int .i64 M, t66, t67, t68, t69, t70, t71, t72, t73, t74, t75, t76, t77, t78, t79], ds⟩ w') :
    (Code.loop (bodyOf Tryz.f138 3)).wp Tryz.prog Q' ⟨#[t0, t1, t2, t3, t4, t5, t6, t7, t8, .pointer (some ⟨z, 0, none⟩), t10, t11, t12, t13, t14, t15, t16, t17, t18, t19, t20, t21, t22, t23, t24, t25, t26, t27, t28, t29, t30, t31, t32, t33, t34, t35, t36, t37, t38, t39, t40, t41, t42, t43, t44, t45, t46, t47, t48, t49, t50, t51, t52, t53, t54, t55, t56, t57, t58, t59, t60, t61, t62, t63, .slice (some ⟨b1, 0, none⟩) M M, .int .i64 M, .int .i64 0, t67, t68, t69, t70, t71, t72, t73, t74, t75, t76, t77, t78, t79], ds⟩ wr0 := by
  have H := Lib.hid h; clear h
  obtain ⟨i0, hi, hz0, hz1, hz2⟩ := info_parts infoInt
  conv in (bodyOf _ _) => whnf
  dsimp only
  go_loopw [66] (fun s66 wr => ∃ (i : Nat) (vF vS : Value), i ≤ M ∧ s66 = .int .i64 i ∧ CvM V w z b0 b1 N M X Y vF vS Fl (numsV i (atB Y)) wr) (fun s66 _ => M - (intOf s66).toNat)
  case atStart => exact ⟨0, vF, vS, Nat.zero_le _, by go_num, C⟩
  case round =>
    clear C
    obtain ⟨i, vF, vS, hle, rfl, C⟩ := hrel
    by_cases hlt : i < M
    · have i1 : ((i : Int) < (M : Int)) := by omega
      obtain ⟨b, hb⟩ : ∃ b, Y[i]? = some b := ⟨Y[i]'(by rw [C.y.len]; exact hlt), List.getElem?_eq_getElem _⟩
      have v0 := C.y.cell hb
      have vl := C.y.lt
      have hab := atB_at hb
      have hsu := numsV_succ i (atB Y)
      have hle2 := numsV_le i (atB Y)
      have hzb := Below.size C.below
      cases b
      case false =>
        rw [if_neg (by simp [hab]), List.append_nil] at hsu
        have HSU := Lib.hid hsu
        clear hsu hab hb
        go_wp2
        exact ⟨⟨i + 1, vF, vS, by omega, by go_num, by rw [HSU.out]; exact C⟩, by simp [intOf]; omega⟩
      case true =>
        rw [if_pos (by simp [hab])] at hsu
        have HSU := Lib.hid hsu
        obtain ⟨c0, c1, cf⟩ := blk2c C.box
        have lz := C.box.lt
        have CA := C.gr (show Gr wr (wr.alloc (.cells #[.int .i64 (i : Int)] 3)) from (Below.refl _ _).alloc (Nat.le_refl _) _)
        clear hsu hab hb
        go_wp2_with (at_builtin; refine wpList_append_own_at _ rfl _ _ 37 rfl w.heap.size 3 i0 (.int .i64 0) 1 8 Tryz.underlying37 hi hz0 hz1 hz2 rfl (by decide) _ _ _ rfl CA.s ⟨wr.heap.size, 0, none⟩ 1 1 [.int .i64 i] rfl rfl (cell_one_new _ _ _) (by simp [Value.oneCell']) (by unfold maxLen; omega) (by omega) (by simp; omega) ?_; intro v2 W5 hown' hgrow _ hob; obtain ⟨g5, cap5, rfl⟩ := ownsRow_succ hown'; have CN := CA.addS hown' hgrow hob; have b9 := CA.box.grown hgrow (fun e => own_blk_ne CA.s CA.box (by decide) e.symm); obtain ⟨e0, e1, ef⟩ := blk2c b9; have l9 := b9.lt)
        rw [← HSU.out] at CN
        exact ⟨⟨i + 1, _, _, by omega, by go_num, CN⟩, by simp [intOf]; omega⟩
    · obtain rfl : i = M := by omega
      go_wp2
      exact H.out _ _ _ _ _ _ _ _ _ _ _ _ _ _ _ vF vS wr C
end Go.Proofs.YtidgeagpgllkeaaGreat

namespace Go.Proofs.YtidgeagpgllkeaaGreat
open Go.RowKit Go.Shelf

theorem isT_rep {n a : Nat} : ¬ isT (List.replicate n false) a := fun h => by
  unfold isT at h
  rw [List.getElem?_replicate] at h
  split at h <;> simp at h
theorem isT_atB {X : List Bool} {a : Nat} : isT X a ↔ atB X a = true := by
  unfold isT atB
  rcases h : X[a]? with _ | b
  · simp
  · simp
theorem restX_le (X : List Bool) : restX X ≤ X.length := List.countP_le_length
/-- What has been reached from all marks without partner. -/
theorem RchS.rch {R : Int → Int → Bool} {n m : Nat} {of tt : Nat → Int} {D : Nat → Prop} (hD : Dead R m of D) {X Y : List Bool} (h : RchS R m of D (List.replicate n false) (List.replicate m false) X Y) (hf : ∀ a, a < n → tt a < 0 → isT X a) : Rch R n m of tt (atB X) (atB Y) :=
  ⟨fun a ha ht => isT_atB.1 (hf a ha ht), fun a _ ht x hx hR => isT_atB.1 ((h.new0 a (isT_atB.2 ht)).elim (fun h => (isT_rep h).elim) (fun h => h x hx hR)), fun k _ hk _ => isT_atB.1 ((h.new1 k (isT_atB.2 hk)).elim (fun h => (isT_rep h).elim) (fun h => h.2)),
    fun k _ hk => (h.new1 k (isT_atB.2 hk)).elim (fun h => (isT_rep h).elim) (fun h => (hD.on k h.1).2.1)⟩
theorem own_slice {W : World} {B e size n : Nat} {v : Value} {xs : List Value} (h : W.ownsRow B e size v n xs) : ∃ A c, v = .slice A n c := by
  rcases h.2 with ⟨rfl, rfl⟩ | ⟨g, cap, cur, rfl, _⟩
  · exact ⟨_, _, rfl⟩
  · exact ⟨_, _, rfl⟩
/-- Two rows of what has been reached, so far. -/
def TwoB (V w : World) (rb n0 n1 : Nat) (k : Nat) (W : World) : Prop := (k = 0 ∧ Blk W rb 223 #[.slice none 0 0, .slice none 0 0]) ∨
  (k = 1 ∧ ∃ b0, w.heap.size ≤ b0 ∧ Blk W rb 223 #[.slice (some ⟨b0, 0, none⟩) n0 n0, .slice none 0 0] ∧ BoM V b0 n0 (List.replicate n0 false) W) ∨
  (k = 2 ∧ ∃ b0 b1, w.heap.size ≤ b0 ∧ w.heap.size ≤ b1 ∧ b0 ≠ b1 ∧ Blk W rb 223 #[.slice (some ⟨b0, 0, none⟩) n0 n0, .slice (some ⟨b1, 0, none⟩) n1 n1] ∧ BoM V b0 n0 (List.replicate n0 false) W ∧ BoM V b1 n1 (List.replicate n1 false) W)

set_option maxRecDepth 100000 in
set_option maxHeartbeats 8000000 in
/-- The rows of what is reached are made. -/
theorem coverLoop0 {V w wr0 : World} {rb zm zr q n0 n1 c0 c1 : Nat} {A0 A1 : Option Addr} (hn0 : n0 ≤ 1000) (hn1 : n1 ≤ 1000) (hV : Below V.heap.size V wr0) (hw : Below w.heap.size w wr0) (hVw : V.heap.size ≤ w.heap.size) (hrb : w.heap.size ≤ rb) (hr : Blk wr0 rb 223 #[.slice none 0 0, .slice none 0 0]) (bm : Blk wr0 zm 195 #[.pointer (some ⟨q, 0, none⟩)]) (br : Blk wr0 zr 126 #[.slice none 0 0, .slice none 0 0]) {t0 t1 t2 t4 t5 t6 t7 t8 t9 t10 t11 t12 t13 t14 t15 t16 t19 t20 t21 t22 t23 t24 t25 t26 t27 t28 t29 t30 t31 t32 t33 t34 t35 t36 t37 t38 t39 t40 t41 t42 t43 t44 t45 t46 t47 t48 t49 t50 t51 t52 t53 t54 t55 t56 t57 t58 t59 t60 t61 t62 t63 t64 t65 t66 t67 t68 t69 t70 t71 t72 t73 t74 t75 t76 t77 t78 t79 : Value} {ds : List Deferred} (Q' : Exit → Act → World → Prop)
    (h : ∀ (t4 t5 t18 t19 t20 t21 t22 t23 t24 t25 t26 t27 : Value) (b0 b1 : Nat) (w' : World), w.heap.size ≤ b0 → w.heap.size ≤ b1 → b0 ≠ b1 → Blk w' rb 223 #[.slice (some ⟨b0, 0, none⟩) n0 n0, .slice (some ⟨b1, 0, none⟩) n1 n1] → BoM V b0 n0 (List.replicate n0 false) w' → BoM V b1 n1 (List.replicate n1 false) w' → Blk w' zm 195 #[.pointer (some ⟨q, 0, none⟩)] → Blk w' zr 126 #[.slice none 0 0, .slice none 0 0] → Below w.heap.size w w' → Q' (.exit 0) ⟨#[t0, t1, t2, .pointer (some ⟨rb, 0, none⟩), t4, t5, t6, t7, t8, t9, t10, t11, t12, t13, t14, t15, t16, .agg #[.slice A0 n0 c0, .slice A1 n1 c1], t18, t19, t20, t21, t22, t23, t24, t25, t26, t27, t28, t29, t30, t31, t32, t33, t34, t35, t36, t37, t38, t39, t40, t41, t42, t43, t44, t45, t46, t47, t48, t49, t50, t51, t52, t53, t54, t55, t56, t57, t58, t59, t60, t61, t62, t63, t64, t65, t66, t67, t68, t69, t70, t71, t72, t73, t74, t75, t76, t77, t78, t79], ds⟩ w') :
    (Code.loop (bodyOf Tryz.f138 0)).wp Tryz.prog Q' ⟨#[t0, t1, t2, .pointer (some ⟨rb, 0, none⟩), t4, t5, t6, t7, t8, t9, t10, t11, t12, t13, t14, t15, t16, .agg #[.slice A0 n0 c0, .slice A1 n1 c1], .int .i64 0, t19, t20, t21, t22, t23, t24, t25, t26, t27, t28, t29, t30, t31, t32, t33, t34, t35, t36, t37, t38, t39, t40, t41, t42, t43, t44, t45, t46, t47, t48, t49, t50, t51, t52, t53, t54, t55, t56, t57, t58, t59, t60, t61, t62, t63, t64, t65, t66, t67, t68, t69, t70, t71, t72, t73, t74, t75, t76, t77, t78, t79], ds⟩ wr0 := by
  have H := Lib.hid h; clear h
  obtain ⟨i1, bi, bz0, bz1, bz2⟩ := info_parts infoBool
  have hix : ∀ (u v : Value) (W : World), (Instr.index 124 (.agg #[u, v]) (.int .i64 0)).run Tryz.prog W = .ok u W ∧ (Instr.index 124 (.agg #[u, v]) (.int .i64 1)).run Tryz.prog W = .ok v W := fun u v W => ⟨by kernel_rfl, by kernel_rfl⟩
  conv in (bodyOf _ _) => whnf
  dsimp only
  go_loopw [18] (fun s18 wr => ∃ (k : Nat), k ≤ 2 ∧ s18 = .int .i64 k ∧ TwoB V w rb n0 n1 k wr ∧ Below V.heap.size V wr ∧ Below w.heap.size w wr ∧ Blk wr zm 195 #[.pointer (some ⟨q, 0, none⟩)] ∧ Blk wr zr 126 #[.slice none 0 0, .slice none 0 0]) (fun s18 _ => 2 - (intOf s18).toNat)
  case atStart => exact ⟨0, by omega, by go_num, .inl ⟨rfl, hr⟩, hV, hw, bm, br⟩
  case round =>
    clear hV hw hr bm br
    obtain ⟨k, hk, rfl, hT, hV, hw, bm, br⟩ := hrel
    have hzV := Below.size hV
    have hzw := Below.size hw
    rcases hT with ⟨rfl, hr⟩ | ⟨rfl, b0, hb0, hr, hx⟩ | ⟨rfl, b0, b1, hb0, hb1, hne, hr, hx, hy⟩
    · have hi := (hix (.slice A0 n0 c0) (.slice A1 n1 c1) wr).1
      obtain ⟨e0, e1, ef⟩ := blk2c hr
      have lr := hr.lt
      go_wp2_with (at_make; refine wpList_make_full _ rfl _ _ 222 rfl V.heap.size 4 i1 (.bool false) 1 Tryz.underlying222 bi bz0 bz1 .i64 .i64 _ _ n0 rfl rfl rfl rfl (by rw [bz2]; omega) (by unfold maxLen; omega) hzV ?_; intro w3 own3 hgrow; have hr3 := hr.grown hgrow (fun e => by cases e); obtain ⟨f0, f1, ff⟩ := blk2c hr3; have lr3 := hr3.lt)
      rw [made_bools] at own3
      have hrx := hr.lt
      have own4 : (w3.setCell ⟨rb, 0, none⟩ (.slice (some ⟨wr.heap.size, 0, none⟩) n0 n0)).ownsRow V.heap.size 4 1 (.slice (some ⟨wr.heap.size, 0, none⟩) n0 n0) n0 (boolsC (List.replicate n0 false)) := ownsRow_setCell_other own3 (own_blk_ne own3 hr3 (by decide)) _
      refine ⟨⟨1, by omega, by go_num, .inr (.inl ⟨rfl, wr.heap.size, hzw, hr3.set_ 0 _, own4, ((hV.grown hgrow hzV (fun r e => by cases e)).setCell (by simp only; omega) _)⟩), (hV.grown hgrow hzV (fun r e => by cases e)).setCell (by simp only; omega) _, (hw.grown hgrow hzw (fun r e => by cases e)).setCell (by simp only; omega) _, (bm.grown hgrow (fun e => by cases e)).far (Blk.ne_ bm hr (by decide)) _, (br.grown hgrow (fun e => by cases e)).far (Blk.ne_ br hr (by decide)) _⟩, by simp [intOf]⟩
    · have hi := (hix (.slice A0 n0 c0) (.slice A1 n1 c1) wr).2
      obtain ⟨e0, e1, ef⟩ := blk2c hr
      have lr := hr.lt
      have lx := hx.lt
      go_wp2_with (at_make; refine wpList_make_full _ rfl _ _ 222 rfl V.heap.size 4 i1 (.bool false) 1 Tryz.underlying222 bi bz0 bz1 .i64 .i64 _ _ n1 rfl rfl rfl rfl (by rw [bz2]; omega) (by unfold maxLen; omega) hzV ?_; intro w3 own3 hgrow; have hr3 := hr.grown hgrow (fun e => by cases e); obtain ⟨f0, f1, ff⟩ := blk2c hr3; have lr3 := hr3.lt)
      rw [made_bools] at own3
      have own4 : (w3.setCell ⟨rb, 1, none⟩ (.slice (some ⟨wr.heap.size, 0, none⟩) n1 n1)).ownsRow V.heap.size 4 1 (.slice (some ⟨wr.heap.size, 0, none⟩) n1 n1) n1 (boolsC (List.replicate n1 false)) := ownsRow_setCell_other own3 (own_blk_ne own3 hr3 (by decide)) _
      have hx3 := hx.kept hgrow (fun r e => by cases e) (fun e => by cases e)
      have hb := (hV.grown hgrow hzV (fun r e => by cases e)).setCell (p := ⟨rb, 1, none⟩) (by simp only; omega) (.slice (some ⟨wr.heap.size, 0, none⟩) n1 n1)
      refine ⟨⟨2, by omega, by go_num, .inr (.inr ⟨rfl, b0, wr.heap.size, hb0, hzw, by omega, hr3.set_ 1 _, hx3.at_ hb (Below.heap_setCell _ _ _ _ (fun e => hx3.neb hr3 (by decide) e.symm)), own4, hb⟩), hb, (hw.grown hgrow hzw (fun r e => by cases e)).setCell (by simp only; omega) _, (bm.grown hgrow (fun e => by cases e)).far (Blk.ne_ bm hr (by decide)) _, (br.grown hgrow (fun e => by cases e)).far (Blk.ne_ br hr (by decide)) _⟩, by simp [intOf]⟩
    · go_wp2
      exact H.out _ _ _ _ _ _ _ _ _ _ _ _ b0 b1 wr hb0 hb1 hne hr hx hy bm br hw

set_option maxRecDepth 100000 in
set_option maxHeartbeats 8000000 in
/-- All that is reached from marks without partner. -/
theorem coverLoop1 (V : World) (rb mb fb q p0 p1 b0 b1 B : Nat) (l0 l1 : List Mk) (A0 A1 : Option Addr) (c0 c1 : Nat) (slack : Int) (T F : List Int) (h0 : Row V B 6 A0 l0.length (mksC l0)) (h1 : Row V B 6 A1 l1.length (mksC l1)) (hB : B ≤ V.heap.size) (HS0 : Hid (∀ m ∈ l0, MkS m)) (HS1 : Hid (∀ m ∈ l1, MkS m)) (hn0 : l0.length ≤ 1000) (hn1 : l1.length ≤ 1000)
    (D : Nat → Prop) (HD : Hid (Dead (relV l0 l1 slack) l1.length (ofL F) D)) (HF : Hid (∀ (k : Nat) (x : Int), F[k]? = some x → x < (l0.length : Int))) (HFR : Hid (∀ a : Nat, a < l0.length → ofL T a < 0 → ∀ x : Nat, x < l1.length → (relV l0 l1 slack) a x = true → D x)) {wr0 : World}
    (C : ReC V rb mb fb q p0 p1 b0 b1 l0.length l1.length (.slice A0 l0.length c0) (.slice A1 l1.length c1) slack T F (List.replicate l0.length false) (List.replicate l1.length false) wr0) {t0 t1 t2 t3 t4 t5 t7 t8 t9 t10 t11 t12 t13 t14 t15 t16 t17 t18 t19 t20 t21 t22 t23 t24 t25 t26 t27 t28 t29 t30 t31 t32 t36 t37 t38 t39 t40 t41 t42 t43 t44 t45 t46 t47 t48 t49 t50 t51 t52 t53 t54 t55 t56 t57 t58 t59 t60 t61 t62 t63 t64 t65 t66 t67 t68 t69 t70 t71 t72 t73 t74 t75 t76 t77 t78 t79 : Value} {ds : List Deferred} (Q' : Exit → Act → World → Prop)
    (h : ∀ (t7 t8 t35 t36 t37 t38 t39 t40 t41 t42 t43 t44 t45 : Value) (X Y : List Bool) (w' : World), ReC V rb mb fb q p0 p1 b0 b1 l0.length l1.length (.slice A0 l0.length c0) (.slice A1 l1.length c1) slack T F X Y w' → Fr3 b0 b1 b1 wr0 w' → Rch (relV l0 l1 slack) l0.length l1.length (ofL F) (ofL T) (atB X) (atB Y) → Q' (.exit 2) ⟨#[t0, t1, t2, t3, t4, t5, .pointer (some ⟨fb, 0, none⟩), t7, t8, t9, t10, t11, t12, t13, t14, t15, t16, t17, t18, t19, t20, t21, t22, t23, t24, t25, t26, t27, t28, t29, t30, t31, t32, .slice (some ⟨p0, 0, none⟩) l0.length l0.length, .int .i64 l0.length, t35, t36, t37, t38, t39, t40, t41, t42, t43, t44, t45, t46, t47, t48, t49, t50, t51, t52, t53, t54, t55, t56, t57, t58, t59, t60, t61, t62, t63, t64, t65, t66, t67, t68, t69, t70, t71, t72, t73, t74, t75, t76, t77, t78, t79], ds⟩ w') :
    (Code.loop (bodyOf Tryz.f138 1)).wp Tryz.prog Q' ⟨#[t0, t1, t2, t3, t4, t5, .pointer (some ⟨fb, 0, none⟩), t7, t8, t9, t10, t11, t12, t13, t14, t15, t16, t17, t18, t19, t20, t21, t22, t23, t24, t25, t26, t27, t28, t29, t30, t31, t32, .slice (some ⟨p0, 0, none⟩) l0.length l0.length, .int .i64 l0.length, .int .i64 0, t36, t37, t38, t39, t40, t41, t42, t43, t44, t45, t46, t47, t48, t49, t50, t51, t52, t53, t54, t55, t56, t57, t58, t59, t60, t61, t62, t63, t64, t65, t66, t67, t68, t69, t70, t71, t72, t73, t74, t75, t76, t77, t78, t79], ds⟩ wr0 := by
  have H := Lib.hid h; clear h
  conv in (bodyOf _ _) => whnf
  dsimp only
  go_loopw [35] (fun s35 wr => ∃ (i : Nat) (X Y : List Bool), i ≤ l0.length ∧ s35 = .int .i64 i ∧ ReC V rb mb fb q p0 p1 b0 b1 l0.length l1.length (.slice A0 l0.length c0) (.slice A1 l1.length c1) slack T F X Y wr ∧ Fr3 b0 b1 b1 wr0 wr ∧ Hid (RchS (relV l0 l1 slack) l1.length (ofL F) D (List.replicate l0.length false) (List.replicate l1.length false) X Y ∧ ∀ a, a < i → ofL T a < 0 → isT X a)) (fun s35 _ => l0.length - (intOf s35).toNat)
  case atStart => exact ⟨0, _, _, Nat.zero_le _, by go_num, C, Fr3.refl _ _ _ _, Lib.hid ⟨RchS.refl _ _ _ _ _ _, fun a h => by omega⟩⟩
  case round =>
    clear C
    obtain ⟨i, X, Y, hle, rfl, C, hFr, HR⟩ := hrel
    by_cases hlt : i < l0.length
    · have i1 : ((i : Int) < (l0.length : Int)) := by omega
      obtain ⟨t, ht⟩ : ∃ t, T[i]? = some t := ⟨T[i]'(by rw [C.m.r0.len]; exact hlt), List.getElem?_eq_getElem _⟩
      have v0 := C.m.r0.cell ht
      have vl := C.m.r0.lt
      have hof := ofL_at ht
      have u0 := C.fbx.cell 0
      have ul := C.fbx.lt
      by_cases hneg : t < 0
      · have hd : decide (t < 0) = true := decide_eq_true hneg
        have HDI : Hid (∀ x : Nat, x < l1.length → (relV l0 l1 slack) (i : Int) (x : Int) = true → D x) := Lib.hid (HFR.out i hlt (by rw [hof]; exact hneg))
        have hrx : restX X < l0.length + 1 := by have := restX_le X; rw [C.x.len] at this; omega
        clear ht hof
        go_wp2_with fail
        refine (reach_any V rb mb fb q p0 p1 b0 b1 B l0 l1 A0 A1 c0 c1 slack T F h0 h1 hB HS0 HS1 hn0 hn1 D HD HF (l0.length + 1) i X Y _ hlt hrx HDI.out C).mono ?_
        rintro e w4 ⟨⟨v, rfl⟩, hF4, X4, Y4, C4, hR4, hT4⟩
        have HR4 : Hid (RchS (relV l0 l1 slack) l1.length (ofL F) D (List.replicate l0.length false) (List.replicate l1.length false) X4 Y4 ∧ ∀ a, a < i + 1 → ofL T a < 0 → isT X4 a) := Lib.hid ⟨HR.out.1.trans hR4, fun a ha hta => by
          by_cases e : a = i
          · subst e; exact hT4
          · exact hR4.up0 a (HR.out.2 a (by omega) hta)⟩
        clear hR4 hT4 C v0 vl u0 ul
        go_wp2
        exact ⟨⟨i + 1, X4, Y4, by omega, by go_num, C4, hFr.trans hF4, HR4⟩, by simp [intOf]; omega⟩
      · have hd : decide (t < 0) = false := decide_eq_false hneg
        have HR4 : Hid (RchS (relV l0 l1 slack) l1.length (ofL F) D (List.replicate l0.length false) (List.replicate l1.length false) X Y ∧ ∀ a, a < i + 1 → ofL T a < 0 → isT X a) := Lib.hid ⟨HR.out.1, fun a ha hta => by
          by_cases e : a = i
          · subst e; rw [hof] at hta; exact absurd hta hneg
          · exact HR.out.2 a (by omega) hta⟩
        clear ht hof
        go_wp2
        exact ⟨⟨i + 1, X, Y, by omega, by go_num, C, hFr, HR4⟩, by simp [intOf]; omega⟩
    · obtain rfl : i = l0.length := by omega
      have HRC := Lib.hid (RchS.rch HD.out HR.out.1 HR.out.2)
      go_wp2
      exact H.out _ _ _ _ _ _ _ _ _ _ _ _ _ X Y wr C hFr HRC.out
end Go.Proofs.YtidgeagpgllkeaaGreat
