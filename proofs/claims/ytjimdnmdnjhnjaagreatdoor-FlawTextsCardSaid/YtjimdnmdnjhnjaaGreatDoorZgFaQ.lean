/- Ranges over functions inside loops: the marks among the deferred calls. Plain laws: the cells that hang together with a cell, found one behind the other. Plain laws: neighbours, and what hangs together, are mutual. Contract: the area of a cell. -/
import Derived.Test.YtjimdnmdnjhnjaaGreatDoorZgFaN
import Derived.Test.YtjimdnmdnjhnjaaGreatDoorZgFaO
namespace Go.Proofs.YtjimdnmdnjhnjaaGreatDoor
open Go.RowKit Go.Shelf

/-- The marks of blocks. -/
def marksOf (Ds : List Nat) : List Deferred := Ds.map fun D => { target := .collected D, args := #[] }
/-- Blocks for deferred calls that hold none, from n₀ on. -/
structure Marks (n₀ : Nat) (Ds : List Nat) (w : World) : Prop where
  nodup : Ds.Nodup
  from_ : ∀ D ∈ Ds, n₀ ≤ D
  hold : ∀ D ∈ Ds, w.heap[D]? = some (.deferred (some []))
theorem Marks.nil (n₀ : Nat) (w : World) : Marks n₀ [] w := ⟨List.nodup_nil, (fun _ h => by cases h), (fun _ h => by cases h)⟩
theorem Marks.lt {n₀ : Nat} {Ds : List Nat} {w : World} (h : Marks n₀ Ds w) {D : Nat} (hD : D ∈ Ds) : D < w.heap.size := (Array.getElem?_eq_some_iff.1 (h.hold D hD)).1
theorem Marks.keep {n₀ : Nat} {Ds : List Nat} {w w' : World} (h : Marks n₀ Ds w) (hk : ∀ D, D ∈ Ds → w'.heap[D]? = w.heap[D]?) : Marks n₀ Ds w' :=
  ⟨h.nodup, h.from_, fun D hD => (hk D hD).trans (h.hold D hD)⟩
theorem Marks.gr {n₀ : Nat} {Ds : List Nat} {w w' : World} (h : Marks n₀ Ds w) (hb : Gr w w') : Marks n₀ Ds w' := h.keep fun D hD => hb.block D (h.lt hD)
theorem Marks.grown {n₀ : Nat} {Ds : List Nat} {w w' : World} {row : Option Nat} (h : Marks n₀ Ds w) (hb : w.grownBy w' row) (hr : ∀ r o, row = some r → w.heap[r]? = some o → ∃ o', w.heap[r]? = some o' ∧ o' ≠ .deferred (some [])) : Marks n₀ Ds w' :=
  h.keep fun D hD => hb.block D (h.lt hD) (fun e => by
    obtain ⟨o', h1, h2⟩ := hr D _ e.symm (h.hold D hD)
    rw [h.hold D hD] at h1
    exact h2 (Option.some.inj h1).symm)
theorem Marks.alloc {n₀ : Nat} {Ds : List Nat} {w : World} (h : Marks n₀ Ds w) (o : Obj) : Marks n₀ Ds (w.alloc o) := h.keep fun D hD => Below.heap_alloc w o D (h.lt hD)
theorem Marks.setCell {n₀ : Nat} {Ds : List Nat} {w : World} (h : Marks n₀ Ds w) {g o : Nat} {cs : Array Value} {t : TypeId} (hb : Blk w g t cs) (u : Value) : Marks n₀ Ds (w.setCell ⟨g, o, none⟩ u) :=
  h.keep fun D hD => Below.heap_setCell w _ u D (fun e => by
    have h1 := h.hold D hD
    rw [e] at h1
    have h2 : w.heap[g]? = some (.cells cs t (0, 0)) := hb
    rw [h2] at h1; cases h1)
theorem Marks.cons {n₀ : Nat} {Ds : List Nat} {w : World} (h : Marks n₀ Ds w) {D B : Nat} (hlt : ∀ D' ∈ Ds, D' < B) (hB : B ≤ D) (hn : n₀ ≤ D) (hD : w.heap[D]? = some (.deferred (some []))) : Marks n₀ (D :: Ds) w :=
  ⟨List.nodup_cons.2 ⟨fun hm => by have := hlt D hm; omega, h.nodup⟩, fun X hX => by
    rcases List.mem_cons.1 hX with rfl | hX
    · exact hn
    · exact h.from_ X hX, fun X hX => by
    rcases List.mem_cons.1 hX with rfl | hX
    · exact hD
    · exact h.hold X hX⟩

/-- Nothing has turned but that blocks for deferred calls, from n₀ on, are shut. -/
structure Shut (n₀ : Nat) (w w' : World) : Prop where
  below : Below n₀ w w'
  same : ∀ (i : Nat) (o : Obj), w.heap[i]? = some o → o ≠ Obj.deferred (some []) → w'.heap[i]? = some o
theorem Shut.refl (n₀ : Nat) (w : World) : Shut n₀ w w := ⟨Below.refl _ _, fun _ _ h _ => h⟩
theorem Shut.put {n₀ D : Nat} {w w' : World} (h : Shut n₀ (w.putObj D (.deferred none)) w') (hn : n₀ ≤ D) (hD : w.heap[D]? = some (.deferred (some []))) : Shut n₀ w w' := by
  refine ⟨⟨h.below.os, h.below.tape, h.below.output, by have := h.below.size; simpa using this, fun k hk => (h.below.block k hk).trans (World.putObj_heap_other (by omega))⟩, fun i o hi ho => h.same i o ?_ ho⟩
  rw [World.putObj_heap_other (fun e => by rw [e, hD] at hi; exact ho (Option.some.inj hi).symm)]
  exact hi
theorem Shut.blk {n₀ g : Nat} {w w' : World} {t : TypeId} {cs : Array Value} (h : Shut n₀ w w') (hb : Blk w g t cs) : Blk w' g t cs := h.same g _ hb (fun e => by cases e)
theorem Shut.own {n₀ base e size n : Nat} {w w' : World} {v : Value} {xs : List Value} (h : Shut n₀ w w') (ho : w.ownsRow base e size v n xs) : w'.ownsRow base e size v n xs := by
  refine ⟨ho.1, ?_⟩
  rcases ho.2 with h0 | ⟨g, cap, cur, hv, hb, hh, r⟩
  · exact .inl h0
  · exact .inr ⟨g, cap, cur, hv, hb, h.same g _ hh (fun e => by cases e), r⟩

theorem leaves_marks {P : Program} {F : Fence} {n : Nat} {fn : Func} {tmps : Array Value} {R : Ending → World → Prop} {n₀ : Nat} : ∀ (Ds : List Nat) (w : World), Marks n₀ Ds w →
    (∀ w', Shut n₀ w w' → ∃ v, (results fn tmps).run P w' = .ok v w' ∧ R (.returned v) w') → LeavesInM F n P fn tmps R (marksOf Ds) .returning w
  | [], w, _, h => h w (Shut.refl _ _)
  | D :: Ds, w, hM, h => by
    have hD := hM.hold D (by simp)
    have hn := hM.from_ D (by simp)
    refine ⟨by simp, .inl ⟨D, _, rfl, run_takeDeferred hD, ?_⟩⟩
    refine leaves_marks Ds _ ⟨(List.nodup_cons.1 hM.nodup).2, fun X hX => hM.from_ X (by simp [hX]), fun X hX => ?_⟩ (fun w' hs => h w' (hs.put hn hD))
    rw [World.putObj_heap_other (fun e => (List.nodup_cons.1 hM.nodup).1 (by rw [← e]; exact hX))]
    exact hM.hold X (by simp [hX])
theorem ret_marks {P : Program} {F : Fence} {n : Nat} {fn : Func} {tmps : Array Value} {R : Ending → World → Prop} {n₀ : Nat} {Ds : List Nat} {w : World} (hM : Marks n₀ Ds w)
    (h : ∀ w', Shut n₀ w w' → ∃ v, (results fn tmps).run P w' = .ok v w' ∧ R (.returned v) w') : bodyPostM F n P fn R .ret { tmps := tmps, defers := marksOf Ds } w := leaves_marks Ds w hM h
theorem ownFrom_marks {β : Type} (n₀ B : Nat) (Ds : List Nat) (hlt : ∀ D ∈ Ds, D < B) : OwnFrom B (fun (_ : β) W => Marks n₀ Ds W) := fun _ W W' row hs hg hr =>
  hs.keep fun D hD => hg.block D (hs.lt hD) (fun e => by have := (hr D e.symm).1; have := hlt D hD; omega)
end Go.Proofs.YtjimdnmdnjhnjaaGreatDoor

namespace Go.Proofs.YtjimdnmdnjhnjaaGreatDoor
open Go.RowKit

/-- The places around a place. -/
def nb9 (corners : Bool) (p : Int × Int) : List (Int × Int) := nbV p.1 p.2 corners 9
/-- What hangs together with a cell. -/
inductive Conn (g : Int → Int → Int) (level : Int) (corners : Bool) (from_ : Int × Int) : Int × Int → Prop
  | refl : Conn g level corners from_ from_
  | step {x y : Int × Int} : Conn g level corners from_ x → y ∈ nb9 corners x → abv g y.1 y.2 level = true → Conn g level corners from_ y
def addN (g : Int → Int → Int) (level : Int) (L : List (Int × Int)) (x : Int × Int) : List (Int × Int) := if decide (x ∈ L) = false ∧ abv g x.1 x.2 level = true then L ++ [x] else L

/-- What has been found when the first i cells have been looked at. -/
structure Bfs (g : Int → Int → Int) (level : Int) (corners : Bool) (from_ : Int × Int) (i : Nat) (L : List (Int × Int)) : Prop where
  nodup : L.Nodup
  has : from_ ∈ L
  conn : ∀ x ∈ L, Conn g level corners from_ x
  closed : ∀ j (h : j < L.length), j < i → ∀ y ∈ nb9 corners L[j], abv g y.1 y.2 level = true → y ∈ L
  le : i ≤ L.length
/-- The same within a round: pre has been looked at. -/
structure BfsIn (g : Int → Int → Int) (level : Int) (corners : Bool) (from_ : Int × Int) (i : Nat) (p : Int × Int) (pre L : List (Int × Int)) : Prop where
  nodup : L.Nodup
  has : from_ ∈ L
  conn : ∀ x ∈ L, Conn g level corners from_ x
  closed : ∀ j (h : j < L.length), j < i → ∀ y ∈ nb9 corners L[j], abv g y.1 y.2 level = true → y ∈ L
  lt : i < L.length
  at_ : ∀ h : i < L.length, L[i] = p
  seen : ∀ y ∈ pre, abv g y.1 y.2 level = true → y ∈ L
section
variable {g : Int → Int → Int} {level : Int} {corners : Bool} {from_ p : Int × Int} {i : Nat} {L pre : List (Int × Int)}
theorem Bfs.start (g : Int → Int → Int) (level : Int) (corners : Bool) (from_ : Int × Int) : Bfs g level corners from_ 0 [from_] :=
  ⟨by simp, by simp, by simp only [List.mem_singleton]; rintro x rfl; exact .refl, fun j _ hj => absurd hj (by omega), by simp⟩
theorem Bfs.enter (h : Bfs g level corners from_ i L) (hi : i < L.length) : BfsIn g level corners from_ i L[i] [] L :=
  ⟨h.nodup, h.has, h.conn, h.closed, hi, fun _ => rfl, fun y hy => by cases hy⟩
theorem BfsIn.add (h : BfsIn g level corners from_ i p pre L) (x : Int × Int) (hx : x ∈ nb9 corners p) : BfsIn g level corners from_ i p (pre ++ [x]) (addN g level L x) := by
  unfold addN
  split
  · rename_i hc
    have hnot : x ∉ L := by simpa using hc.1
    have hp : p ∈ L := by have := h.at_ h.lt; rw [← this]; exact List.getElem_mem _
    refine ⟨?_, by simp [h.has], ?_, ?_, by simp; have := h.lt; omega, fun hl => ?_, ?_⟩
    · rw [List.nodup_append]
      exact ⟨h.nodup, by simp, fun a ha b hb => by simp at hb; subst hb; exact fun e => hnot (e ▸ ha)⟩
    · intro y hy
      rcases List.mem_append.1 hy with hy | hy
      · exact h.conn y hy
      · simp at hy; subst hy; exact .step (h.conn p hp) hx hc.2
    · intro j hj hji y hy ha
      have hjl : j < L.length := by have := h.lt; omega
      rw [List.getElem_append_left hjl] at hy
      exact List.mem_append_left _ (h.closed j hjl hji y hy ha)
    · rw [List.getElem_append_left h.lt]; exact h.at_ h.lt
    · intro y hy ha
      rcases List.mem_append.1 hy with hy | hy
      · exact List.mem_append_left _ (h.seen y hy ha)
      · simp at hy; subst hy; simp
  · rename_i hc
    refine ⟨h.nodup, h.has, h.conn, h.closed, h.lt, h.at_, fun y hy ha => ?_⟩
    rcases List.mem_append.1 hy with hy | hy
    · exact h.seen y hy ha
    · simp at hy; subst hy
      by_cases hm : y ∈ L
      · exact hm
      · exact absurd ⟨by simpa using hm, ha⟩ hc
theorem BfsIn.leave (h : BfsIn g level corners from_ i p (nb9 corners p) L) : Bfs g level corners from_ (i + 1) L := by
  refine ⟨h.nodup, h.has, h.conn, fun j hj hji y hy ha => ?_, h.lt⟩
  by_cases e : j = i
  · subst e
    rw [h.at_ hj] at hy
    exact h.seen y hy ha
  · exact h.closed j hj (by omega) y hy ha
theorem Bfs.all (h : Bfs g level corners from_ L.length L) (x : Int × Int) : x ∈ L ↔ Conn g level corners from_ x := by
  refine ⟨h.conn x, fun hc => ?_⟩
  induction hc with
  | refl => exact h.has
  | step _ hy ha ih =>
    obtain ⟨j, hj, rfl⟩ := List.getElem_of_mem ih
    exact h.closed j hj hj _ hy ha
theorem Conn.abv (h0 : abv g from_.1 from_.2 level = true) {x : Int × Int} (h : Conn g level corners from_ x) : Proofs.YtjimdnmdnjhnjaaGreatDoor.abv g x.1 x.2 level = true := by
  cases h with
  | refl => exact h0
  | step _ _ ha => exact ha
end
theorem abv_iff (g : Int → Int → Int) (r c level : Int) : abv g r c level = true ↔ 0 ≤ g r c ∧ level ≤ g r c := by simp [abv]

/-- The cells of an area, ascending. -/
structure AreaOk (g : Int → Int → Int) (level : Int) (corners : Bool) (from_ : Int × Int) (cs : List (Int × Int)) : Prop where
  sorted : cs.Pairwise fun x y => leC x y = true
  nodup : cs.Nodup
  mem : ∀ x, x ∈ cs ↔ Conn g level corners from_ x
theorem Bfs.area {g : Int → Int → Int} {level : Int} {corners : Bool} {from_ : Int × Int} {L : List (Int × Int)} (h : Bfs g level corners from_ L.length L) : AreaOk g level corners from_ (sortC L) :=
  ⟨sortC_sorted L, (sortC_perm L).nodup_iff.2 h.nodup, fun x => by rw [(sortC_perm L).mem_iff]; exact h.all x⟩

theorem nodup_len {α : Type} [BEq α] [LawfulBEq α] : ∀ (A B : List α), A.Nodup → (∀ a ∈ A, a ∈ B) → A.length ≤ B.length
  | [], _, _, _ => by simp
  | a :: A, B, hn, h => by
    obtain ⟨h1, h2⟩ := List.nodup_cons.1 hn
    have hm : a ∈ B := h a (by simp)
    have := nodup_len A (B.erase a) h2 fun x hx => (List.mem_erase_of_ne (fun e => h1 (by subst e; exact hx))).2 (h x (by simp [hx]))
    rw [List.length_erase_of_mem hm] at this
    have hp : 0 < B.length := List.length_pos_of_mem hm
    simp; omega

/-- No more different known cells than the map has entries. -/
theorem FMap.count {w : World} {b n : Nat} {g : Int → Int → Int} (h : FMap w b n g) {L : List (Int × Int)} (hn : L.Nodup) (hL : ∀ x ∈ L, 0 ≤ g x.1 x.2 ∧ W64 x.1 ∧ W64 x.2) : L.length ≤ n := by
  obtain ⟨D, h, k⟩ := h
  obtain ⟨es, hD, _, _⟩ := h.entries cellLaw
  have hsz := h.size_le
  subst hD
  have hsz' : es.length ≤ n := hsz
  have key : ∀ x ∈ L.map fun x => kl x.1 x.2, x ∈ es.map (·.1) := by
    intro l hl
    obtain ⟨x, hx, rfl⟩ := List.mem_map.1 hl
    obtain ⟨h0, h1, h2⟩ := hL x hx
    have hh := (k x.1 x.2 h1 h2).1
    rw [show decide (0 ≤ g x.1 x.2) = true by simpa using h0] at hh
    obtain ⟨p, hp, hpk⟩ := List.any_eq_true.1 hh
    exact List.mem_map.2 ⟨p, hp, WideAt.sameKey_eq hpk⟩
  have hnd : (L.map fun x => kl x.1 x.2).Nodup := by
    rw [List.nodup_iff_pairwise_ne, List.pairwise_map]
    refine List.Pairwise.imp_of_mem ?_ (List.nodup_iff_pairwise_ne.1 hn)
    intro a b ha hb hab e
    obtain ⟨_, a1, a2⟩ := hL a ha
    obtain ⟨_, b1, b2⟩ := hL b hb
    obtain ⟨e1, e2⟩ := kl_inj a1 a2 b1 b2 e
    exact hab (Prod.ext e1 e2)
  have : (L.map fun x => kl x.1 x.2).length ≤ (es.map (·.1)).length := by
    classical
    letI : BEq Lit := instBEqOfDecidableEq (α := Lit)
    exact nodup_len _ _ hnd key
  simpa using Nat.le_trans this (by simpa using hsz')
end Go.Proofs.YtjimdnmdnjhnjaaGreatDoor

namespace Go.Proofs.YtjimdnmdnjhnjaaGreatDoor

/-- Two places are neighbours. -/
def nbB (corners : Bool) (p q : Int × Int) : Bool := decide (-1 ≤ q.1 - p.1) && decide (q.1 - p.1 ≤ 1) && decide (-1 ≤ q.2 - p.2) && decide (q.2 - p.2 ≤ 1) && keepB corners (q.1 - p.1) (q.2 - p.2)
theorem mem_nb9 {corners : Bool} {p q : Int × Int} : q ∈ nb9 corners p ↔ nbB corners p q = true := by
  obtain ⟨p1, p2⟩ := p
  obtain ⟨q1, q2⟩ := q
  unfold nb9 nbV nbB
  simp only [List.mem_map, List.mem_filter, List.mem_range, Prod.mk.injEq, Bool.and_eq_true, decide_eq_true_eq]
  constructor
  · rintro ⟨j, ⟨hj, hk⟩, e1, e2⟩
    have e1' : q1 - p1 = ((j / 3 : Nat) - 1 : Int) := by omega
    have e2' : q2 - p2 = ((j % 3 : Nat) - 1 : Int) := by omega
    rw [e1', e2']
    exact ⟨by omega, hk⟩
  · rintro ⟨⟨⟨⟨h1, h2⟩, h3⟩, h4⟩, hk⟩
    refine ⟨(3 * (q1 - p1 + 1) + (q2 - p2 + 1)).toNat, ⟨by omega, ?_⟩, by omega, by omega⟩
    have e1 : (((3 * (q1 - p1 + 1) + (q2 - p2 + 1)).toNat / 3 : Nat) - 1 : Int) = q1 - p1 := by omega
    have e2 : (((3 * (q1 - p1 + 1) + (q2 - p2 + 1)).toNat % 3 : Nat) - 1 : Int) = q2 - p2 := by omega
    rw [e1, e2]; exact hk
theorem nbB_symm {corners : Bool} {p q : Int × Int} (h : nbB corners p q = true) : nbB corners q p = true := by
  have e1 : p.1 - q.1 = -(q.1 - p.1) := by omega
  have e2 : p.2 - q.2 = -(q.2 - p.2) := by omega
  unfold nbB at *
  rw [e1, e2]
  generalize q.1 - p.1 = a at *
  generalize q.2 - p.2 = b at *
  have k : keepB corners (-a) (-b) = keepB corners a b := by
    unfold keepB
    rw [show decide (-a = 0) = decide (a = 0) from decide_eq_decide.2 (by omega), show decide (-b = 0) = decide (b = 0) from decide_eq_decide.2 (by omega), show decide (-a ≠ 0) = decide (a ≠ 0) from decide_eq_decide.2 (by omega), show decide (-b ≠ 0) = decide (b ≠ 0) from decide_eq_decide.2 (by omega)]
  rw [k]
  simp only [Bool.and_eq_true, decide_eq_true_eq] at *
  refine ⟨⟨⟨⟨?_, ?_⟩, ?_⟩, ?_⟩, h.2⟩ <;> omega
theorem Conn.trans {g : Int → Int → Int} {level : Int} {corners : Bool} {x y z : Int × Int} (h : Conn g level corners x y) (h' : Conn g level corners y z) : Conn g level corners x z := by
  induction h' with
  | refl => exact h
  | step _ hm ha ih => exact .step ih hm ha
theorem Conn.symm {g : Int → Int → Int} {level : Int} {corners : Bool} {x y : Int × Int} (hx : Proofs.YtjimdnmdnjhnjaaGreatDoor.abv g x.1 x.2 level = true) (h : Conn g level corners x y) : Conn g level corners y x := by
  have key : Proofs.YtjimdnmdnjhnjaaGreatDoor.abv g y.1 y.2 level = true ∧ Conn g level corners y x := by
    induction h with
    | refl => exact ⟨hx, .refl⟩
    | step _ hm ha ih =>
      refine ⟨ha, Conn.trans (.step .refl ?_ ih.1) ih.2⟩
      exact mem_nb9.2 (nbB_symm (mem_nb9.1 hm))
  exact key.2
end Go.Proofs.YtjimdnmdnjhnjaaGreatDoor

namespace Go.Proofs.YtjimdnmdnjhnjaaGreatDoor
open Go.RowKit Go.Shelf

attribute [local go_sem] Oper.semAt_some

/-- The cell with the greatest amplitude, of cells in order. -/
def peakV (g : Int → Int → Int) (cs : List (Int × Int)) : Int × Int := cs.foldl (fun p x => if g p.1 p.2 < g x.1 x.2 then x else p) (cs.headD (0, 0))

set_option maxHeartbeats 400000 in
theorem neighbours_any (r c : Int) (corners : Bool) (w : World) :
    Calls Tryz.prog 73 #[.agg #[.int .i64 r, .int .i64 c], .bool corners] w fun e w' => e = .returned (.func (.func 108) #[] #[.pointer (some ⟨w.heap.size + 1, 0, none⟩), .pointer (some ⟨w.heap.size, 0, none⟩)]) ∧
      (w.alloc (.cells #[.int .i64 r, .int .i64 c] 62)).alloc (.cells #[.bool corners] 4) = w' := by
  go_enter Tryz.func73, Tryz.ntmps73
  go_wp2
  go_ret
  exact ⟨rfl, rfl⟩

theorem nb_stops (F : Fence) (n : Nat) (h7 : F.fn 108) (hro : F.round = none) (hn : 1 ≤ n) (Bc Ba : Nat) (r c : Int) (corners : Bool) (hr : -150000 ≤ r ∧ r ≤ 150000) (hc : -150000 ≤ c ∧ c ≤ 150000) (w : World) (hBc : Bc < w.heap.size) (hBa : Ba < w.heap.size)
    (c0 : w.cell? ⟨Bc, 0, none⟩ = some (.bool corners)) (a0 : w.cell? ⟨Ba, 0, none⟩ = some (.int .i64 r)) (a1 : w.cell? ⟨Ba, 1, none⟩ = some (.int .i64 c)) :
    SeqStopsK F n Tryz.prog 108 #[.pointer (some ⟨Bc, 0, none⟩), .pointer (some ⟨Ba, 0, none⟩)] (fun x : Cel => #[.agg #[.int .i64 x.1.1, .int .i64 x.1.2]]) (KN Bc Ba) (fun ys : List Cel => ys.map (·.1) = nbV r c corners 9) (fun pre : List Cel => pre.map (·.1) <+: nbV r c corners 9) 9 w := fun l J Jx W hW _ _ hY h0 => by
  have k0 := (hW.cell (p := ⟨Bc, 0, none⟩) hBc).trans c0
  have k1 := (hW.cell (p := ⟨Ba, 0, none⟩) hBa).trans a0
  have k2 := (hW.cell (p := ⟨Ba, 1, none⟩) hBa).trans a1
  refine (nb1_in F n h7 hro hn l Bc Ba r c corners hr hc J Jx hY W k0 k1 k2 h0).mono ?_
  rintro e W' ⟨he, ⟨ys, h1, hj⟩ | ⟨pre, h1, hj⟩⟩
  · exact ⟨he, .inl ⟨ys, h1, hj⟩⟩
  · exact ⟨he, .inr ⟨pre, h1, hj⟩⟩

/-- What lies in memory between two rounds. -/
structure ArI (w : World) (b n S B3 B4 B6 B7 B8 : Nat) (g : Int → Int → Int) (level : Int) (corners : Bool) (L : List (Int × Int)) (v : Value) (W : World) : Prop where
  b3 : Blk W B3 90 #[.map (some b)]
  b4 : Blk W B4 41 #[.int .i64 level, .bool corners]
  b6 : Blk W B6 64 #[.slice none 0 0, .int .i64 0, .int .i64 0, .int .i64 0]
  b7 : Blk W B7 96 #[.map (some S)]
  b8 : Blk W B8 64 #[v, .int .i64 0, .int .i64 0, .int .i64 0]
  hM : FMap W b n g
  hS : BMap W S L.length (fun x y => decide ((x, y) ∈ L))
  row : W.ownsRow w.heap.size 62 2 v L.length (cellsC L)
  below : Below w.heap.size w W
section
variable {w W W' : World} {b n S B3 B4 B6 B7 B8 : Nat} {g : Int → Int → Int} {level : Int} {corners : Bool} {L : List (Int × Int)} {v : Value}
theorem ArI.gr (h : ArI w b n S B3 B4 B6 B7 B8 g level corners L v W) (k : Gr W W') : ArI w b n S B3 B4 B6 B7 B8 g level corners L v W' :=
  ⟨h.b3.gr k, h.b4.gr k, h.b6.gr k, h.b7.gr k, h.b8.gr k, h.hM.gr k, h.hS.gr k, own_below h.row k, h.below.trans (Below.mono k (Below.size h.below))⟩
theorem ArI.alloc (h : ArI w b n S B3 B4 B6 B7 B8 g level corners L v W) (o : Obj) : ArI w b n S B3 B4 B6 B7 B8 g level corners L v (W.alloc o) := h.gr ((Below.refl _ _).alloc (Nat.le_refl _) _)
end
theorem rowCell {base g n cap : Nat} {L : List (Int × Int)} {w : World} {e : TypeId} (h : w.ownsRow base e 2 (.slice (some ⟨g, 0, none⟩) n cap) n (cellsC L)) {i : Nat} (hi : i < L.length) :
    w.cell? ⟨g, i * 2, none⟩ = some (.int .i64 L[i].1) ∧ w.cell? ⟨g, i * 2 + 1, none⟩ = some (.int .i64 L[i].2) := by
  have hl : n = L.length := by have := h.1; rw [cellsC_len] at this; omega
  subst hl
  have e1 : (cellsC L)[i * 2]? = some (.int .i64 L[i].1) := by
    rw [flat_getC, show i * 2 / 2 = i by omega, show i * 2 % 2 = 0 by omega, List.getElem?_eq_getElem hi]; rfl
  have e2 : (cellsC L)[i * 2 + 1]? = some (.int .i64 L[i].2) := by
    rw [flat_getC, show (i * 2 + 1) / 2 = i by omega, show (i * 2 + 1) % 2 = 1 by omega, List.getElem?_eq_getElem hi]; rfl
  exact ⟨by rw [h.cellAt _ (by omega), e1], by rw [h.cellAt _ (by omega), e2]⟩

/-- The body of a loop by its place in the text. -/
def loopsC : Code → List Code
  | .seq a b => loopsC a ++ loopsC b
  | .cond _ a b => loopsC a ++ loopsC b
  | .block _ b => loopsC b
  | .loop b => b :: loopsC b
  | .scope b => loopsC b
  | _ => []
def bodyOf (f : Func) (k : Nat) : Code := ((f.body.map loopsC).getD [])[k]?.getD .skip
end Go.Proofs.YtjimdnmdnjhnjaaGreatDoor
