/- Words for memory: rows, blocks, what the call owns. -/
import Derived.Below
import Derived.Laws.OwnMore
import Derived.Deep.AppendLies
import Derived.Deep.Draws
import Derived.Laws.Rows
import Derived.Maps.AppendAt
import Derived.RegionTactic
import Derived.OwnWalk
import Derived.Lib.Hide
import Derived.Test.YtjimdnmdnjhnjaaGreatDoorZgRgW
namespace Go.Proofs.YtjimdnmdnjhnjaaGreatDoor
open Go.RowKit

theorem block_of_add (a : Addr) (n : Nat) : (a.add n).block = a.block := by unfold Addr.add; split <;> rfl

def Blk (w : World) (g : Nat) (t : TypeId) (cs : Array Value) : Prop := w.heap[g]? = some (.cells cs t (0, 0))

section
variable {w w' : World} {g : Nat} {t : TypeId} {cs : Array Value}
theorem Blk.lt (h : Blk w g t cs) : g < w.heap.size := by
  rcases Nat.lt_or_ge g w.heap.size with hlt | hge
  · exact hlt
  · unfold Blk at h; rw [Array.getElem?_eq_none hge] at h; cases h
theorem Blk.cell (h : Blk w g t cs) (i : Nat) : w.cell? ⟨g, i, none⟩ = cs[i]? := cell_of_row w g i cs t (0, 0) h
theorem Blk.frozen (h : Blk w g t cs) (i : Nat) : w.frozen? ⟨g, i, none⟩ = false := by
  unfold Blk at h
  simp [World.frozen?, h]
theorem Blk.new (w : World) (t : TypeId) (cs : Array Value) : Blk (w.alloc (.cells cs t)) w.heap.size t cs := heap_alloc_new w _
theorem Blk.drew (h : Blk w g t cs) : Blk w.drew g t cs := h
theorem Blk.drewN (h : Blk w g t cs) (n : Nat) : Blk (w.drewN n) g t cs := h
theorem Blk.alloc (h : Blk w g t cs) (o : Obj) : Blk (w.alloc o) g t cs := (Below.heap_alloc w o g h.lt).trans h
theorem Blk.set_ (h : Blk w g t cs) (i : Nat) (u : Value) : Blk (w.setCell ⟨g, i, none⟩ u) g t (cs.setIfInBounds i u) := by
  unfold Blk at h ⊢
  simp [World.setCell, Array.getElem?_modify, h]
theorem Blk.far (h : Blk w g t cs) {p : Addr} (hp : g ≠ p.block) (u : Value) : Blk (w.setCell p u) g t cs := (Below.heap_setCell w p u g hp).trans h
theorem Blk.below {B : Nat} (h : Blk w g t cs) (hb : Below B w w') (hg : g < B) : Blk w' g t cs := (hb.block g hg).trans h
theorem Blk.grown {row : Option Nat} (h : Blk w g t cs) (hb : w.grownBy w' row) (hg : some g ≠ row) : Blk w' g t cs := (hb.block g h.lt hg).trans h
theorem Blk.ne_ {g' : Nat} {t' : TypeId} {cs' : Array Value} (h : Blk w g t cs) (h' : Blk w g' t' cs') (hne : t ≠ t') : g ≠ g' := by
  rintro rfl
  unfold Blk at h h'
  rw [h] at h'
  injection h' with h'
  injection h' with _ ht
  exact hne ht
theorem own_blk_ne {base : Nat} {e : TypeId} {size n : Nat} {v : Value} {xs : List Value} (h : w.ownsRow base e size v n xs) (hg : Blk w g t cs) (hne : e ≠ t) : v.ownBlock ≠ some g := by
  rcases h.2 with ⟨rfl, _⟩ | ⟨g', cap, cur, rfl, _, hh, _⟩
  · simp [Value.ownBlock]
  · intro he
    have : g' = g := by simpa [Value.ownBlock] using he
    subst this
    exact Blk.ne_ (t := e) hh hg hne rfl
end

theorem only_setCell {a w : World} {g : Nat} (h : a.grownBy w (some g)) {p : Addr} (hp : p.block = g ∨ a.heap.size ≤ p.block) (u : Value) : a.grownBy (w.setCell p u) (some g) :=
  ⟨h.os, h.tape, h.output, by simpa [World.setCell] using h.size, fun i hi hne => (Below.heap_setCell w p u i (by
    rintro rfl
    rcases hp with hp | hp
    · exact hne (by rw [hp])
    · omega)).trans (h.block i hi hne)⟩
theorem only_of_below {a w : World} (h : Below a.heap.size a w) (row : Option Nat) : a.grownBy w row := ⟨h.os, h.tape, h.output, h.size, fun i hi _ => h.block i hi⟩

/-- A slice that reads as a list of cells: its row lies below block B. -/
def Row (w : World) (B size : Nat) (A : Option Addr) (n : Nat) (xs : List Value) : Prop :=
  xs.length = n * size ∧ (0 < n → ∃ g o, A = some ⟨g, o, none⟩ ∧ g < B ∧ ∀ j u, xs[j]? = some u → w.cell? ⟨g, o + j, none⟩ = some u)
section
variable {w w' : World} {B B' size n : Nat} {A : Option Addr} {xs : List Value}
theorem Row.nil_ : Row w B size A 0 [] := ⟨by simp, fun h => absurd h (by omega)⟩
theorem Row.keep (h : Row w B size A n xs) (hk : ∀ b o, b < B → w'.cell? ⟨b, o, none⟩ = w.cell? ⟨b, o, none⟩) : Row w' B size A n xs :=
  ⟨h.1, fun hn => by
    obtain ⟨g, o, e, hb, hc⟩ := h.2 hn
    exact ⟨g, o, e, hb, fun j u hu => (hk _ _ hb).trans (hc j u hu)⟩⟩
theorem Row.more (h : Row w B size A n xs) (hB : B ≤ B') : Row w B' size A n xs :=
  ⟨h.1, fun hn => by
    obtain ⟨g, o, e, hb, hc⟩ := h.2 hn
    exact ⟨g, o, e, by omega, hc⟩⟩
theorem Row.below (h : Row w B size A n xs) {C : Nat} (hb : Below C w w') (hC : B ≤ C) : Row w' B size A n xs := h.keep fun b o hp => hb.cell (p := ⟨b, o, none⟩) (by simp; omega)
theorem Row.alloc (h : Row w B size A n xs) (hB : B ≤ w.heap.size) (o : Obj) : Row (w.alloc o) B size A n xs := h.keep fun b p hp => World.cell?_alloc_lt w o _ (by simp; omega)
theorem Row.setCell (h : Row w B size A n xs) {p : Addr} (hB : B ≤ p.block) (u : Value) : Row (w.setCell p u) B size A n xs :=
  h.keep fun b o hb => World.cell?_setCell_other w p _ u (fun e => by subst e; simp at hB; omega)
theorem Row.drew (h : Row w B size A n xs) : Row w.drew B size A n xs := h
theorem Row.drewN (h : Row w B size A n xs) (k : Nat) : Row (w.drewN k) B size A n xs := h
end

theorem own_ne {w : World} {base e size n g : Nat} {v : Value} {xs : List Value} (h : w.ownsRow base e size v n xs) (hg : g < base ∨ w.heap.size ≤ g) : some g ≠ v.ownBlock := by
  rcases h.2 with ⟨rfl, _⟩ | ⟨g', cap, cur, rfl, hb, hh, _⟩
  · simp [Value.ownBlock]
  · intro e
    have : g = g' := by simpa [Value.ownBlock] using e
    subst this
    have : g < w.heap.size := (Array.getElem?_eq_some_iff.1 hh).1
    omega

theorem own_below {w w' : World} {base e size n : Nat} {v : Value} {xs : List Value} (h : w.ownsRow base e size v n xs) (hb : Below w.heap.size w w') : w'.ownsRow base e size v n xs :=
  h.kept (only_of_below hb none) (by cases hv : v.ownBlock <;> simp)
theorem below_own {a b d : World} {base e size n : Nat} {v : Value} {xs : List Value} (h : Below a.heap.size a b) (hb : a.heap.size ≤ base) (hown : b.ownsRow base e size v n xs) (k : b.grownBy d v.ownBlock) : Below a.heap.size a d :=
  h.grown k (Below.size h) (fun g e => by
    rcases hown.2 with ⟨rfl, _⟩ | ⟨g', cap, cur, rfl, hb', _⟩
    · cases e
    · simp [Value.ownBlock] at e; omega)

theorem Blk.gr {w w' : World} {g : Nat} {t : TypeId} {cs : Array Value} (h : Blk w g t cs) (k : Gr w w') : Blk w' g t cs := h.below k h.lt

theorem blk4 {w : World} {g t : Nat} {v0 v1 v2 v3 : Value} (h : Blk w g t #[v0, v1, v2, v3]) :
    w.cell? ⟨g, 0, none⟩ = some v0 ∧ w.cell? ⟨g, 1, none⟩ = some v1 ∧ w.cell? ⟨g, 2, none⟩ = some v2 ∧ w.cell? ⟨g, 3, none⟩ = some v3 ∧ ∀ i, w.frozen? ⟨g, i, none⟩ = false :=
  ⟨h.cell 0, h.cell 1, h.cell 2, h.cell 3, h.frozen⟩

/-- Whether two texts are the same. -/
def sameB (a b : ByteArray) : Bool := a.toList == b.toList
theorem any_take_snoc {α : Type} (l : List α) (k : Nat) (h : k < l.length) (q : α → Bool) : (l.take (k + 1)).any q = ((l.take k).any q || q l[k]) := by
  rw [List.take_succ_eq_append_getElem h, List.any_append]; simp
theorem any_of_take {α : Type} (l : List α) (k : Nat) (h : k < l.length) (q : α → Bool) (hq : q l[k] = true) : l.any q = true :=
  List.any_eq_true.2 ⟨l[k], List.getElem_mem h, hq⟩

theorem blk2c {w : World} {g t : Nat} {v0 v1 : Value} (h : Blk w g t #[v0, v1]) : w.cell? ⟨g, 0, none⟩ = some v0 ∧ w.cell? ⟨g, 1, none⟩ = some v1 ∧ ∀ i, w.frozen? ⟨g, i, none⟩ = false :=
  ⟨h.cell 0, h.cell 1, h.frozen⟩
theorem blk5c {w : World} {g t : Nat} {v0 v1 v2 v3 v4 : Value} (h : Blk w g t #[v0, v1, v2, v3, v4]) : w.cell? ⟨g, 0, none⟩ = some v0 ∧ w.cell? ⟨g, 1, none⟩ = some v1 ∧ w.cell? ⟨g, 2, none⟩ = some v2 ∧ w.cell? ⟨g, 3, none⟩ = some v3 ∧ w.cell? ⟨g, 4, none⟩ = some v4 ∧ ∀ i, w.frozen? ⟨g, i, none⟩ = false :=
  ⟨h.cell 0, h.cell 1, h.cell 2, h.cell 3, h.cell 4, h.frozen⟩
theorem Blk.set2 {g : Nat} {b : World} {t : TypeId} {v0 v1 : Value} (h : Blk b g t #[v0, v1]) (u0 u1 : Value) : Blk ((b.setCell ⟨g, 0, none⟩ u0).setCell ⟨g, 1, none⟩ u1) g t #[u0, u1] := (h.set_ 0 u0).set_ 1 u1
end Go.Proofs.YtjimdnmdnjhnjaaGreatDoor
