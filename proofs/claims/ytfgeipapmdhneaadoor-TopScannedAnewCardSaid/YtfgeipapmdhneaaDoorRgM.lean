/- Functions that range over functions: the marks among their deferred calls. -/
import Derived.RangeFuncLeaves
import Derived.RangeFuncBox
import Derived.RangeFuncNested
import Derived.OwnWalkIn
import Derived.Test.YtfgeipapmdhneaaDoorZsCvM
namespace Go.Proofs.YtfgeipapmdhneaaDoor
open Go.RowKit Go.Shelf

/-- The marks of blocks. -/
def marksOf (Ds : List Nat) : List Deferred := Ds.map fun D => { target := .collected D, args := #[] }
/-- Blocks for deferred calls that hold none, from n₀ on. -/
structure Marks (n₀ : Nat) (Ds : List Nat) (w : World) : Prop where
  nodup : Ds.Nodup
  from_ : ∀ D ∈ Ds, n₀ ≤ D
  hold : ∀ D ∈ Ds, w.heap[D]? = some (.deferred (some []))
theorem Marks.nil (n₀ : Nat) (w : World) : Marks n₀ [] w := ⟨List.nodup_nil, (fun _ h => by cases h), (fun _ h => by cases h)⟩
theorem Marks.lt {n₀ : Nat} {Ds : List Nat} {w : World} (h : Marks n₀ Ds w) {D : Nat} (hD : D ∈ Ds) : D < w.heap.size := (Array.getElem?_eq_some_iff.1 (h.hold D hD)).1
theorem Marks.keep {n₀ : Nat} {Ds : List Nat} {w w' : World} (h : Marks n₀ Ds w) (hk : ∀ D, D ∈ Ds → w'.heap[D]? = w.heap[D]?) : Marks n₀ Ds w' :=
  ⟨h.nodup, h.from_, fun D hD => (hk D hD).trans (h.hold D hD)⟩
theorem Marks.gr {n₀ : Nat} {Ds : List Nat} {w w' : World} (h : Marks n₀ Ds w) (hb : Gr w w') : Marks n₀ Ds w' := h.keep fun D hD => hb.block D (h.lt hD)
theorem Marks.grown {n₀ : Nat} {Ds : List Nat} {w w' : World} {row : Option Nat} (h : Marks n₀ Ds w) (hb : w.grownBy w' row) (hr : ∀ r o, row = some r → w.heap[r]? = some o → ∃ o', w.heap[r]? = some o' ∧ o' ≠ .deferred (some [])) : Marks n₀ Ds w' :=
  h.keep fun D hD => hb.block D (h.lt hD) (fun e => by
    obtain ⟨o', h1, h2⟩ := hr D _ e.symm (h.hold D hD)
    rw [h.hold D hD] at h1
    exact h2 (Option.some.inj h1).symm)
theorem Marks.alloc {n₀ : Nat} {Ds : List Nat} {w : World} (h : Marks n₀ Ds w) (o : Obj) : Marks n₀ Ds (w.alloc o) := h.keep fun D hD => Below.heap_alloc w o D (h.lt hD)
theorem Marks.setCell {n₀ : Nat} {Ds : List Nat} {w : World} (h : Marks n₀ Ds w) {g o : Nat} {cs : Array Value} {t : TypeId} (hb : Blk w g t cs) (u : Value) : Marks n₀ Ds (w.setCell ⟨g, o, none⟩ u) :=
  h.keep fun D hD => Below.heap_setCell w _ u D (fun e => by
    have h1 := h.hold D hD
    rw [e] at h1
    have h2 : w.heap[g]? = some (.cells cs t (0, 0)) := hb
    rw [h2] at h1; cases h1)
theorem Marks.cons {n₀ : Nat} {Ds : List Nat} {w : World} (h : Marks n₀ Ds w) {D B : Nat} (hlt : ∀ D' ∈ Ds, D' < B) (hB : B ≤ D) (hn : n₀ ≤ D) (hD : w.heap[D]? = some (.deferred (some []))) : Marks n₀ (D :: Ds) w :=
  ⟨List.nodup_cons.2 ⟨fun hm => by have := hlt D hm; omega, h.nodup⟩, fun X hX => by
    rcases List.mem_cons.1 hX with rfl | hX
    · exact hn
    · exact h.from_ X hX, fun X hX => by
    rcases List.mem_cons.1 hX with rfl | hX
    · exact hD
    · exact h.hold X hX⟩

/-- Nothing has turned but that blocks for deferred calls, from n₀ on, are shut. -/
structure Shut (n₀ : Nat) (w w' : World) : Prop where
  below : Below n₀ w w'
  same : ∀ (i : Nat) (o : Obj), w.heap[i]? = some o → o ≠ Obj.deferred (some []) → w'.heap[i]? = some o
theorem Shut.refl (n₀ : Nat) (w : World) : Shut n₀ w w := ⟨Below.refl _ _, fun _ _ h _ => h⟩
theorem Shut.put {n₀ D : Nat} {w w' : World} (h : Shut n₀ (w.putObj D (.deferred none)) w') (hn : n₀ ≤ D) (hD : w.heap[D]? = some (.deferred (some []))) : Shut n₀ w w' := by
  refine ⟨⟨h.below.os, h.below.tape, h.below.output, by have := h.below.size; simpa using this, fun k hk => (h.below.block k hk).trans (World.putObj_heap_other (by omega))⟩, fun i o hi ho => h.same i o ?_ ho⟩
  rw [World.putObj_heap_other (fun e => by rw [e, hD] at hi; exact ho (Option.some.inj hi).symm)]
  exact hi
theorem Shut.blk {n₀ g : Nat} {w w' : World} {t : TypeId} {cs : Array Value} (h : Shut n₀ w w') (hb : Blk w g t cs) : Blk w' g t cs := h.same g _ hb (fun e => by cases e)
theorem Shut.own {n₀ base e size n : Nat} {w w' : World} {v : Value} {xs : List Value} (h : Shut n₀ w w') (ho : w.ownsRow base e size v n xs) : w'.ownsRow base e size v n xs := by
  refine ⟨ho.1, ?_⟩
  rcases ho.2 with h0 | ⟨g, cap, cur, hv, hb, hh, r⟩
  · exact .inl h0
  · exact .inr ⟨g, cap, cur, hv, hb, h.same g _ hh (fun e => by cases e), r⟩

theorem leaves_marks {P : Program} {F : Fence} {n : Nat} {fn : Func} {tmps : Array Value} {R : Ending → World → Prop} {n₀ : Nat} : ∀ (Ds : List Nat) (w : World), Marks n₀ Ds w →
    (∀ w', Shut n₀ w w' → ∃ v, (results fn tmps).run P w' = .ok v w' ∧ R (.returned v) w') → LeavesInM F n P fn tmps R (marksOf Ds) .returning w
  | [], w, _, h => h w (Shut.refl _ _)
  | D :: Ds, w, hM, h => by
    have hD := hM.hold D (by simp)
    have hn := hM.from_ D (by simp)
    refine ⟨by simp, .inl ⟨D, _, rfl, run_takeDeferred hD, ?_⟩⟩
    refine leaves_marks Ds _ ⟨(List.nodup_cons.1 hM.nodup).2, fun X hX => hM.from_ X (by simp [hX]), fun X hX => ?_⟩ (fun w' hs => h w' (hs.put hn hD))
    rw [World.putObj_heap_other (fun e => (List.nodup_cons.1 hM.nodup).1 (by rw [← e]; exact hX))]
    exact hM.hold X (by simp [hX])
theorem ret_marks {P : Program} {F : Fence} {n : Nat} {fn : Func} {tmps : Array Value} {R : Ending → World → Prop} {n₀ : Nat} {Ds : List Nat} {w : World} (hM : Marks n₀ Ds w)
    (h : ∀ w', Shut n₀ w w' → ∃ v, (results fn tmps).run P w' = .ok v w' ∧ R (.returned v) w') : bodyPostM F n P fn R .ret { tmps := tmps, defers := marksOf Ds } w := leaves_marks Ds w hM h
theorem ownFrom_marks {β : Type} (n₀ B : Nat) (Ds : List Nat) (hlt : ∀ D ∈ Ds, D < B) : OwnFrom B (fun (_ : β) W => Marks n₀ Ds W) := fun _ W W' row hs hg hr =>
  hs.keep fun D hD => hg.block D (hs.lt hD) (fun e => by have := (hr D e.symm).1; have := hlt D hD; omega)
end Go.Proofs.YtfgeipapmdhneaaDoor
