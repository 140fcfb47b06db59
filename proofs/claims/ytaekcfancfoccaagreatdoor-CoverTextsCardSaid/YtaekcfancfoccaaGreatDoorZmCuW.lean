/- Functions that range over functions: the marks among their deferred calls. cover.Parse: what its rounds hold. -/
import Derived.RangeFuncLeaves
import Derived.RangeFuncBox
import Derived.RangeFuncNested
import Derived.OwnWalkIn
import Derived.Test.YtaekcfancfoccaaGreatDoorZmZkCvM
import Derived.Test.YtaekcfancfoccaaGreatDoorZmCuV
import Derived.Test.YtaekcfancfoccaaGreatDoorZmCuJ
namespace Go.Proofs.YtaekcfancfoccaaGreatDoor
open Go.RowKit Go.Shelf

def marksOf (Ds : List Nat) : List Deferred := Ds.map fun D => { target := .collected D, args := #[] }
structure Marks (n₀ : Nat) (Ds : List Nat) (w : World) : Prop where
  nodup : Ds.Nodup
  from_ : ∀ D ∈ Ds, n₀ ≤ D
  hold : ∀ D ∈ Ds, w.heap[D]? = some (.deferred (some []))
theorem Marks.nil (n₀ : Nat) (w : World) : Marks n₀ [] w := ⟨List.nodup_nil, (fun _ h => by cases h), (fun _ h => by cases h)⟩
theorem Marks.keep {n₀ : Nat} {Ds : List Nat} {w w' : World} (h : Marks n₀ Ds w) (hk : ∀ D, D ∈ Ds → w'.heap[D]? = w.heap[D]?) : Marks n₀ Ds w' :=
  ⟨h.nodup, h.from_, fun D hD => (hk D hD).trans (h.hold D hD)⟩
theorem Marks.cons {n₀ : Nat} {Ds : List Nat} {w : World} (h : Marks n₀ Ds w) {D B : Nat} (hlt : ∀ D' ∈ Ds, D' < B) (hB : B ≤ D) (hn : n₀ ≤ D) (hD : w.heap[D]? = some (.deferred (some []))) : Marks n₀ (D :: Ds) w :=
  ⟨List.nodup_cons.2 ⟨fun hm => by have := hlt D hm; omega, h.nodup⟩, fun X hX => by
    rcases List.mem_cons.1 hX with rfl | hX
    · exact hn
    · exact h.from_ X hX, fun X hX => by
    rcases List.mem_cons.1 hX with rfl | hX
    · exact hD
    · exact h.hold X hX⟩

structure Shut (n₀ : Nat) (w w' : World) : Prop where
  below : Below n₀ w w'
  same : ∀ (i : Nat) (o : Obj), w.heap[i]? = some o → o ≠ Obj.deferred (some []) → w'.heap[i]? = some o
theorem Shut.refl (n₀ : Nat) (w : World) : Shut n₀ w w := ⟨Below.refl _ _, fun _ _ h _ => h⟩
theorem Shut.put {n₀ D : Nat} {w w' : World} (h : Shut n₀ (w.putObj D (.deferred none)) w') (hn : n₀ ≤ D) (hD : w.heap[D]? = some (.deferred (some []))) : Shut n₀ w w' := by
  refine ⟨⟨h.below.os, h.below.tape, h.below.output, by have := h.below.size; simpa using this, fun k hk => (h.below.block k hk).trans (World.putObj_heap_other (by omega))⟩, fun i o hi ho => h.same i o ?_ ho⟩
  rw [World.putObj_heap_other (fun e => by rw [e, hD] at hi; exact ho (Option.some.inj hi).symm)]
  exact hi
theorem Shut.blk {n₀ g : Nat} {w w' : World} {t : TypeId} {cs : Array Value} (h : Shut n₀ w w') (hb : Blk w g t cs) : Blk w' g t cs := h.same g _ hb (fun e => by cases e)
theorem Shut.own {n₀ base e size n : Nat} {w w' : World} {v : Value} {xs : List Value} (h : Shut n₀ w w') (ho : w.ownsRow base e size v n xs) : w'.ownsRow base e size v n xs := by
  refine ⟨ho.1, ?_⟩
  rcases ho.2 with h0 | ⟨g, cap, cur, hv, hb, hh, r⟩
  · exact .inl h0
  · exact .inr ⟨g, cap, cur, hv, hb, h.same g _ hh (fun e => by cases e), r⟩

theorem leaves_marks {P : Program} {F : Fence} {n : Nat} {fn : Func} {tmps : Array Value} {R : Ending → World → Prop} {n₀ : Nat} : ∀ (Ds : List Nat) (w : World), Marks n₀ Ds w →
    (∀ w', Shut n₀ w w' → ∃ v, (results fn tmps).run P w' = .ok v w' ∧ R (.returned v) w') → LeavesInM F n P fn tmps R (marksOf Ds) .returning w
  | [], w, _, h => h w (Shut.refl _ _)
  | D :: Ds, w, hM, h => by
    have hD := hM.hold D (by simp)
    have hn := hM.from_ D (by simp)
    refine ⟨by simp, .inl ⟨D, _, rfl, run_takeDeferred hD, ?_⟩⟩
    refine leaves_marks Ds _ ⟨(List.nodup_cons.1 hM.nodup).2, fun X hX => hM.from_ X (by simp [hX]), fun X hX => ?_⟩ (fun w' hs => h w' (hs.put hn hD))
    rw [World.putObj_heap_other (fun e => (List.nodup_cons.1 hM.nodup).1 (by rw [← e]; exact hX))]
    exact hM.hold X (by simp [hX])
theorem ret_marks {P : Program} {F : Fence} {n : Nat} {fn : Func} {tmps : Array Value} {R : Ending → World → Prop} {n₀ : Nat} {Ds : List Nat} {w : World} (hM : Marks n₀ Ds w)
    (h : ∀ w', Shut n₀ w w' → ∃ v, (results fn tmps).run P w' = .ok v w' ∧ R (.returned v) w') : bodyPostM F n P fn R .ret { tmps := tmps, defers := marksOf Ds } w := leaves_marks Ds w hM h
end Go.Proofs.YtaekcfancfoccaaGreatDoor

namespace Go.Proofs.YtaekcfancfoccaaGreatDoor
open Go.RowKit Go.Shelf Go.Lib

attribute [local go_sem] Oper.semAt_some

def PaO (n : Nat) (W : World) : Option Jo → Prop
  | none => Blk W (n + 3) 101 #[.pointer none]
  | some j => ∃ (jb : Nat) (A : Option Addr) (c : Nat), n + 6 ≤ jb ∧ Blk W (n + 3) 101 #[.pointer (some ⟨jb, 0, none⟩)] ∧ Blk W jb 24 (joC j A c) ∧ W.ownsRow (n + 6) 83 5 (.slice A j.fs.length c) j.fs.length (fcsC j.fs) ∧ j.fs.length ≤ 12
structure PaI (w : World) (n k : Nat) (st : Option Jo) (W : World) : Prop where
  br : Blk W n 24 #[.string ⟨#[]⟩, .int .i64 0, .int .i64 0, .slice none 0 0]
  bm : Blk W (n + 1) 34 #[.int .i64 0, .int .i64 0]
  be : Blk W (n + 2) 27 #[.int .i64 0]
  bc : Blk W (n + 4) 3 #[.int .i64 k]
  bo : PaO n W st
  below : Below n w W
  size : n + 6 ≤ W.heap.size
theorem own_cells_ {W : World} {base e size n : Nat} {v : Value} {xs : List Value} (h : W.ownsRow base e size v n xs) {g : Nat} (hg : v.ownBlock = some g) : base ≤ g ∧ ∃ o, W.heap[g]? = some o ∧ o.isCells = true := by
  rcases h.2 with ⟨rfl, _⟩ | ⟨g', cap, cur, rfl, hb, hh, _⟩
  · simp [Value.ownBlock] at hg
  · have : g' = g := by simpa [Value.ownBlock] using hg
    subst this
    exact ⟨hb, _, hh, rfl⟩
theorem own_kept {W W' : World} {row : Option Nat} {base e size n : Nat} {v : Value} {xs : List Value} (h : W.ownsRow base e size v n xs) (hg : W.grownBy W' row) (hne : ∀ g o, base ≤ g → W.heap[g]? = some o → o.isCells = true → some g ≠ row) : W'.ownsRow base e size v n xs := by
  refine h.kept hg ?_
  cases hv : v.ownBlock with
  | none => exact .inl rfl
  | some g =>
    obtain ⟨hb, o, ho, hc⟩ := own_cells_ h hv
    exact .inr (hne g o hb ho hc)
theorem PaO.kept {n : Nat} {W W' : World} {st : Option Jo} {row : Option Nat} (h : PaO n W st) (hg : W.grownBy W' row) (h3 : some (n + 3) ≠ row) (hne : ∀ g o, n + 6 ≤ g → W.heap[g]? = some o → o.isCells = true → some g ≠ row) : PaO n W' st := by
  cases st with
  | none => exact Blk.grown (show Blk W (n + 3) _ _ from h) hg h3
  | some j =>
    obtain ⟨jb, A, c, hj, b1, b2, o, hl⟩ := h
    exact ⟨jb, A, c, hj, b1.grown hg h3, b2.grown hg (hne jb _ hj b2 rfl), own_kept o hg hne, hl⟩
theorem PaI.kept {w : World} {n k : Nat} {st : Option Jo} {W W' : World} {row : Option Nat} (h : PaI w n k st W) (hw : n ≤ W.heap.size) (hg : W.grownBy W' row) (hlo : ∀ r, row = some r → n + 5 ≤ r) (hne : ∀ g o, n + 6 ≤ g → W.heap[g]? = some o → o.isCells = true → some g ≠ row) : PaI w n k st W' := by
  have lo : ∀ i, i < n + 5 → some i ≠ row := fun i hi e => by have := hlo i e.symm; omega
  exact ⟨h.br.grown hg (lo _ (by omega)), h.bm.grown hg (lo _ (by omega)), h.be.grown hg (lo _ (by omega)), h.bc.grown hg (lo _ (by omega)), h.bo.kept hg (lo _ (by omega)) hne, h.below.grown hg hw (fun r e => by have := hlo r e; omega), Nat.le_trans h.size hg.size⟩
theorem gr_grown {W W' : World} (h : Gr W W') : W.grownBy W' none := ⟨Below.os h, Below.tape h, Below.output h, Below.size h, fun k hk _ => h.block k hk⟩
theorem PaI.gr {w : World} {n k : Nat} {st : Option Jo} {W W' : World} (h : PaI w n k st W) (hg : Gr W W') : PaI w n k st W' :=
  h.kept (by have := h.size; omega) (gr_grown hg) (fun _ e => by cases e) (fun _ _ _ _ _ e => by cases e)
theorem PaO.set4_ {n : Nat} {W : World} {st : Option Jo} (h : PaO n W st) (u : Value) : PaO n (W.setCell ⟨n + 4, 0, none⟩ u) st := by
  cases st with
  | none => exact Blk.far (show Blk W (n + 3) _ _ from h) (p := ⟨n + 4, 0, none⟩) (by simp) u
  | some j =>
    obtain ⟨jb, A, c, hj, b1, b2, o, hl⟩ := h
    exact ⟨jb, A, c, hj, b1.far (p := ⟨n + 4, 0, none⟩) (by simp) u, b2.far (p := ⟨n + 4, 0, none⟩) (by simp only; omega) u, own_set o (p := ⟨n + 4, 0, none⟩) (by simp only; omega) u, hl⟩
theorem PaI.count {w : World} {n k : Nat} {st : Option Jo} {W : World} (h : PaI w n k st W) (k' : Nat) : PaI w n k' st (W.setCell ⟨n + 4, 0, none⟩ (.int .i64 k')) :=
  ⟨h.br.far (p := ⟨n + 4, 0, none⟩) (by simp) _, h.bm.far (p := ⟨n + 4, 0, none⟩) (by simp) _, h.be.far (p := ⟨n + 4, 0, none⟩) (by simp) _, h.bc.set_ 0 _, h.bo.set4_ _, h.below.setCell (p := ⟨n + 4, 0, none⟩) (by simp) _, by have := h.size; simpa [World.setCell] using this⟩
structure Rd (n : Nat) (W W' : World) : Prop where
  from_ : KeepsFrom (n + 6) W W'
  box : W'.heap[n + 5]? = W.heap[n + 5]?
theorem Rd.refl (n : Nat) (W : World) : Rd n W W := ⟨KeepsFrom.refl _ _, rfl⟩
theorem Rd.trans {n : Nat} {X Y Z : World} (h : Rd n X Y) (k : Rd n Y Z) : Rd n X Z := ⟨h.from_.trans k.from_, k.box.trans h.box⟩
theorem Rd.set {n : Nat} {X Y : World} (h : Rd n X Y) (p : Addr) (hp : n + 5 ≠ p.block) (u : Value) : Rd n X (Y.setCell p u) := h.trans ⟨(KeepsOthers.setCell _ _ _).from _, Below.heap_setCell _ _ _ _ hp⟩
theorem Rd.gr {n : Nat} {X Y Z : World} (h : Rd n X Y) (hg : Gr Y Z) (hn : n + 5 < Y.heap.size) : Rd n X Z :=
  h.trans ⟨⟨Below.size hg, fun k _ _ hk _ => (hg.block k (Array.getElem?_eq_some_iff.1 hk).1).trans hk⟩, hg.block _ hn⟩
theorem Rd.two {n jb : Nat} {row : Option Nat} {X Y Z : World} (h : Rd n X Y) (hk : KeepsTwo jb row Y Z) (hn : n + 5 < Y.heap.size) (hj : n + 5 ≠ jb) (hr : some (n + 5) ≠ row) (cj : ∀ o, Y.heap[jb]? = some o → o.isCells = true) (cr : ∀ r o, row = some r → Y.heap[r]? = some o → o.isCells = true) : Rd n X Z := by
  refine h.trans ⟨⟨hk.size, fun k o _ hko ho => (hk.same k (Array.getElem?_eq_some_iff.1 hko).1 (fun e => ?_) (fun e => ?_)).trans hko⟩, hk.same _ hn hj hr⟩
  · rw [e] at hko; rw [cj o hko] at ho; cases ho
  · rw [cr k o e.symm hko] at ho; cases ho
theorem PaI.head {w : World} {n k jb fb : Nat} {W : World} (h : PaI w n k none W) (hj : n + 6 ≤ jb) (hf : n + 6 ≤ fb) (hfj : ¬ fb = jb) (bj : Blk W jb 24 #[.string ⟨#[]⟩, .int .i64 0, .int .i64 0, .slice none 0 0]) (nm : ByteArray) (t z l c e : Int) :
    PaI w n k (some ⟨nm, t, z, []⟩) ((((((((W.setCell ⟨jb, 0, none⟩ (.string nm)).setCell ⟨jb, 1, none⟩ (.int .i64 t)).setCell ⟨jb, 2, none⟩ (.int .i64 z)).setCell ⟨jb, 3, none⟩ (.slice none 0 0)).setCell ⟨fb, 0, none⟩ (.int .i64 l)).setCell ⟨fb, 1, none⟩ (.int .i64 c)).setCell ⟨fb, 2, none⟩ (.int .i64 e)).setCell ⟨n + 3, 0, none⟩ (.pointer (some ⟨jb, 0, none⟩))) := by
  have far : ∀ {i : Nat} {T : TypeId} {cs : Array Value}, i < n + 5 → i ≠ n + 3 → Blk W i T cs → Blk ((((((((W.setCell ⟨jb, 0, none⟩ (.string nm)).setCell ⟨jb, 1, none⟩ (.int .i64 t)).setCell ⟨jb, 2, none⟩ (.int .i64 z)).setCell ⟨jb, 3, none⟩ (.slice none 0 0)).setCell ⟨fb, 0, none⟩ (.int .i64 l)).setCell ⟨fb, 1, none⟩ (.int .i64 c)).setCell ⟨fb, 2, none⟩ (.int .i64 e)).setCell ⟨n + 3, 0, none⟩ (.pointer (some ⟨jb, 0, none⟩))) i T cs := fun hi h3 hb =>
    ((((hb.far4 (p := jb) (by omega) (.string nm) (.int .i64 t) (.int .i64 z) (.slice none 0 0)).far (p := ⟨fb, 0, none⟩) (by simp only; omega) _).far (p := ⟨fb, 1, none⟩) (by simp only; omega) _).far (p := ⟨fb, 2, none⟩) (by simp only; omega) _).far (p := ⟨n + 3, 0, none⟩) (by simpa using h3) _
  refine ⟨far (by omega) (by omega) h.br, far (by omega) (by omega) h.bm, far (by omega) (by omega) h.be, far (by omega) (by omega) h.bc, ⟨jb, none, 0, hj, ?_, ?_, World.ownsRow_nil _ _ _ _, by simp⟩, ?_, ?_⟩
  · exact ((((Blk.far4 (show Blk W (n + 3) 101 #[.pointer none] from h.bo) (p := jb) (by omega) (.string nm) (.int .i64 t) (.int .i64 z) (.slice none 0 0)).far (p := ⟨fb, 0, none⟩) (by simp only; omega) _).far (p := ⟨fb, 1, none⟩) (by simp only; omega) _).far (p := ⟨fb, 2, none⟩) (by simp only; omega) _).set_ 0 _
  · exact ((((Blk.set4 bj (.string nm) (.int .i64 t) (.int .i64 z) (.slice none 0 0)).far (p := ⟨fb, 0, none⟩) (Ne.symm hfj) _).far (p := ⟨fb, 1, none⟩) (Ne.symm hfj) _).far (p := ⟨fb, 2, none⟩) (Ne.symm hfj) _).far (p := ⟨n + 3, 0, none⟩) (by simp only; omega) _
  · exact ((((Below.set4 h.below (show n ≤ jb by omega)).setCell (p := ⟨fb, 0, none⟩) (by simp only; omega) _).setCell (p := ⟨fb, 1, none⟩) (by simp only; omega) _).setCell (p := ⟨fb, 2, none⟩) (by simp only; omega) _).setCell (p := ⟨n + 3, 0, none⟩) (by simp) _
  · have := h.size; simpa [World.setCell] using this
theorem PaI.fault {w : World} {n k fb : Nat} {st : Option Jo} {W : World} {cs : Array Value} (h : PaI w n k st W) (hf : n + 6 ≤ fb) (bf : Blk W fb 109 cs) (l c e : Int) :
    PaI w n k st (((W.setCell ⟨fb, 0, none⟩ (.int .i64 l)).setCell ⟨fb, 1, none⟩ (.int .i64 c)).setCell ⟨fb, 2, none⟩ (.int .i64 e)) := by
  have one : ∀ (X : World) (cs' : Array Value) (i : Nat) (u : Value), Blk X fb 109 cs' → PaI w n k st X → PaI w n k st (X.setCell ⟨fb, i, none⟩ u) := by
    intro X cs' i u bx hx
    have far : ∀ {g : Nat} {T : TypeId} {c1 : Array Value}, 109 ≠ T → Blk X g T c1 → Blk (X.setCell ⟨fb, i, none⟩ u) g T c1 := fun hT hb => hb.far (p := ⟨fb, i, none⟩) (fun e => hT (by
      have h1 := hb; have h2 := bx
      unfold Blk at h1 h2
      simp only at e
      rw [e, h2] at h1
      have h3 := Option.some.inj h1
      injection h3 with _ ht)) u
    refine ⟨far (by decide) hx.br, far (by decide) hx.bm, far (by decide) hx.be, far (by decide) hx.bc, ?_, hx.below.setCell (p := ⟨fb, i, none⟩) (by simp only; omega) _, by have := hx.size; simpa [World.setCell] using this⟩
    cases st with
    | none => exact far (by decide) (show Blk X (n + 3) 101 _ from hx.bo)
    | some j =>
      obtain ⟨jb, A, c, hj, b1, b2, o, hl⟩ := hx.bo
      exact ⟨jb, A, c, hj, far (by decide) b1, far (by decide) b2, o.kept (grown1 X fb i u) (.inr (own_blk_ne o bx (by decide))), hl⟩
  have b1 := bf.set_ 0 (.int .i64 l)
  have b2 := b1.set_ 1 (.int .i64 c)
  exact one _ _ _ _ b2 (one _ _ _ _ b1 (one _ _ _ _ bf h))
theorem PaI.add {w : World} {n k jb : Nat} {j : Jo} {A : Option Addr} {c : Nat} {W W' : World} (h : PaI w n k (some j) W) (hj : n + 6 ≤ jb) (b1 : Blk W (n + 3) 101 #[.pointer (some ⟨jb, 0, none⟩)]) (b2 : Blk W jb 24 (joC j A c)) (o : W.ownsRow (n + 6) 83 5 (.slice A j.fs.length c) j.fs.length (fcsC j.fs)) (_hl : j.fs.length ≤ 12)
    {q : Option (ByteArray × Fc)} (hq : (joF j q).fs.length ≤ 12) (hR : AddR j jb (n + 6) A c W W' q) : PaI w n k (some (joF j q)) W' ∧ Rd n W W' ∧ (∀ {g : Nat} {cs : Array Value}, Blk W g 109 cs → Blk W' g 109 cs) := by
  have hsz := h.size
  cases q with
  | none =>
    have hg : Gr W W' := hR
    exact ⟨h.gr hg, (Rd.refl n W).gr hg (by omega), fun hb => hb.gr hg⟩
  | some p =>
    obtain ⟨A', c', bj, ow, K⟩ := hR
    have hrow : ∀ r, (Value.slice A j.fs.length c).ownBlock = some r → n + 6 ≤ r := fun r e => (own_cells_ o e).1
    have lo : ∀ i, i < n + 6 → W'.heap[i]? = W.heap[i]? := fun i hi => K.same i (by omega) (by omega) (fun e => by have := hrow i e.symm; omega)
    have far : ∀ {i : Nat} {T : TypeId} {cs : Array Value}, i < n + 6 → Blk W i T cs → Blk W' i T cs := fun hi hb => (lo _ hi).trans hb
    refine ⟨⟨far (by omega) h.br, far (by omega) h.bm, far (by omega) h.be, far (by omega) h.bc, ⟨jb, A', c', hj, far (by omega) b1, ?_, ?_, hq⟩, ?_, Nat.le_trans hsz K.size⟩, ?_, ?_⟩
    · have e : (j.fs ++ [p]).length = j.fs.length + 1 := by simp
      exact bj
    · have e : (j.fs ++ [p]).length = j.fs.length + 1 := by simp
      show W'.ownsRow (n + 6) _ 5 (.slice A' (j.fs ++ [p]).length c') (j.fs ++ [p]).length (fcsC (j.fs ++ [p]))
      rw [e]; exact ow
    · exact h.below.trans (K.below (by omega) (by omega) (fun r e => by have := hrow r e; omega))
    · refine (Rd.refl n W).two K (by omega) (by omega) (fun e => by have := hrow _ e.symm; omega) (fun ob hob => ?_) (fun r ob e hob => ?_)
      · rw [show W.heap[jb]? = _ from b2] at hob; cases hob; rfl
      · obtain ⟨_, o2, ho2, hc2⟩ := own_cells_ o e
        rw [ho2] at hob; cases hob; exact hc2
    · intro g cs hb
      exact (K.same g hb.lt (fun e => by
        subst e
        have h1 : W.heap[g]? = _ := hb
        rw [show W.heap[g]? = _ from b2] at h1
        have h2 := Option.some.inj h1
        injection h2 with _ ht
        revert ht; decide) (fun e => own_blk_ne o hb (by decide) e.symm)).trans hb
end Go.Proofs.YtaekcfancfoccaaGreatDoor
