/- Contracts: whether some face is left open by chosen set-ups. Functions that range over functions: the marks among their deferred calls. DERIVED: THE SHELF's CONTRACTS AT THIS DUMP, IN PLAIN WORDS (tools/lay-plain.mjs out of 'YtlnkgjkjdllckaaGreatDoorShRaw.lean', which tools/lay-shelf.mjs wrote): THE SAME DECLARATIONS UNDER THE SAME NAMES: 'import', 'namespace', 'open', 'def', 'theorem' AND NOTHING ELSE: no command of the shelf's: FOR A HAND-IN. Each laying: the table of numbers ('.._ren') and one theorem, a field a fact of the dump's own or the kernel's comparison; each contract: ONE APPLICATION. Contract: slices.Clone of ints; one round of cover.LeastPlan's loop, and the loop. Contract: cover.LeastPlan, of a joint and set-ups of which some cover it. -/
import Derived.Test.YtlnkgjkjdllckaaGreatDoorTpX2
import Derived.RangeFuncLeaves
import Derived.RangeFuncBox
import Derived.RangeFuncNested
import Derived.OwnWalkIn
import Derived.Test.YtlnkgjkjdllckaaGreatDoorZpCvM
import Derived.Ground.Names2Prog
import Derived.Shelf.Slices.Clone
import Derived.Ground.SlgnProg
import Derived.Shelf.SlicesE.Clone
import Derived.Test.YtlnkgjkjdllckaaGreatDoorProg
import Derived.Test.YtlnkgjkjdllckaaGreatDoorTpX1
namespace Go.Proofs.YtlnkgjkjdllckaaGreatDoor
open Go.RowKit

/-- The parts of all faces are right. -/
def GoodP (nf n : Nat) (P : Nat → List GP) : Prop := ∀ i, i < nf → (P i).length = n ∧ (∀ p ∈ P i, p.1.good) ∧ ∀ p ∈ P i, p.1.low

set_option maxRecDepth 100000 in
set_option maxHeartbeats 1000000 in
theorem openFn_any (ps : List GP) (ns : List Nat) (A : Option Addr) (c : Nat) (A' : Option Addr) (c' b : Nat) (w : World) (h1 : ps.length ≤ 1000) (h2 : ns.length ≤ 1000) (hns : ∀ n ∈ ns, n < ps.length) (hR : Row w w.heap.size 6 A ps.length (ps.flatMap encP)) (hN : Row w w.heap.size 1 A' ns.length (natsC ns)) (hc : w.cell? ⟨b, 0, none⟩ = some (.slice A' ns.length c')) (hE : Ends w) (hg : ∀ p ∈ ps, p.1.good) (hlow : ∀ p ∈ ps, p.1.low) :
    Calls Tryz.prog 26 #[.slice A ps.length c, .pointer (some ⟨b, 0, none⟩)] w fun e w' => ∃ r : Bool, e = .returned (.bool r) ∧ Hid ((r = false → Cov ps ns) ∧ (r = true → ¬ Cov ps ns)) ∧ Below w.heap.size w w' := by
  have hlt := World.block_lt_of_cell? _ _ hc
  have HG := Lib.hid (And.intro hg hlow)
  have hgap := Lib.hid (gap_any ps ns A c A' c' w (by omega) (by omega) hns hR hN hE)
  clear hg hlow hns hR hN hE
  go_enter Tryz.func26, Tryz.ntmps26
  go_wp2_with fail
  refine hgap.out.mono ?_
  rintro e w1 ⟨l', hp, hs, rfl, hB⟩
  obtain ⟨⟨⟨⟨ra, rb, rc, rd⟩, rz⟩, HR⟩⟩ : Nonempty { r // Hid (r = gapL (0, 1) l') } := ⟨⟨_, Lib.hid rfl⟩⟩
  rw [← HR.out]
  have HX : Hid ((rz = false → Cov ps ns) ∧ (rz = true → ¬ Cov ps ns)) := Lib.hid
    ⟨fun e => gapN_none HG.out.1 (r := (ra, rb, rc, rd)) ⟨l', hp, hs, by rw [← HR.out, e]⟩, fun e => gapN_some HG.out.1 HG.out.2 (r := (ra, rb, rc, rd)) ⟨l', hp, hs, by rw [← HR.out, e]⟩⟩
  unfold gapC
  clear hp hs HR HG hgap
  have hB4 := hB.alloc (Below.size hB) (.cells #[.int .i64 ra, .int .i64 rb, .int .i64 rc, .int .i64 rd] 37 (0, 0))
  go_wp2
  go_ret
  exact ⟨rz, rfl, HX, hB4⟩

set_option maxRecDepth 100000 in
set_option maxHeartbeats 1000000 in
theorem indexOpen_any (nf n : Nat) (P : Nat → List GP) (ns : List Nat) (Af : Option Addr) (cf base : Nat) (A' : Option Addr) (c' b : Nat) (w : World) (hnf : nf ≤ 1000) (hn : n ≤ 1000) (h2 : ns.length ≤ 1000) (hns : ∀ k ∈ ns, k < n) (M : Planes w base (.slice Af nf cf) nf n P) (hN : Row w w.heap.size 1 A' ns.length (natsC ns)) (hc : w.cell? ⟨b, 0, none⟩ = some (.slice A' ns.length c')) (hE : Ends w) (hG : GoodP nf n P) :
    Calls Tryz.prog 51 #[.slice Af nf cf, .func (.func 26) #[] #[.pointer (some ⟨b, 0, none⟩)]] w fun e w' => ∃ r : Int, e = .returned (.int .i64 r) ∧ Hid ((r < 0 → ∀ i, i < nf → Cov (P i) ns) ∧ (0 ≤ r → ∃ i, i < nf ∧ ¬ Cov (P i) ns)) ∧ Below w.heap.size w w' := by
  have HM := Lib.hid (fun W (h : Below w.heap.size w W) => M.gr h)
  have HN := Lib.hid (fun W (h : Below w.heap.size w W) => (hN.below h (Nat.le_refl _)).more (Below.size h))
  have HC := Lib.hid (fun W (h : Below w.heap.size w W) => (h.cell (p := ⟨b, 0, none⟩) (World.block_lt_of_cell? _ _ hc)).trans hc)
  have HE : Hid (∀ W, Below w.heap.size w W → Ends W) := Lib.hid fun W h => hE.below h
  have HG := Lib.hid hG
  have HNS := Lib.hid hns
  clear M hN hc hE hG hns
  go_enter Tryz.func51, Tryz.ntmps51
  go_wp2
  go_loopw [8] (fun i wr => ∃ k : Nat, k ≤ nf ∧ i = .int .i64 k ∧ Hid (∀ i, i < k → Cov (P i) ns) ∧ Below w.heap.size w wr) (fun i _ => nf - (intOf i).toNat)
  case atStart => exact ⟨0, Nat.zero_le _, rfl, Lib.hid (fun i h => absurd h (by omega)), Below.refl _ _⟩
  case round =>
    obtain ⟨k, hk, rfl, HI, hB⟩ := hrel
    by_cases hlt : k < nf
    · obtain ⟨hpl, hgd, hlw⟩ := HG.out k hlt
      obtain ⟨vs, hown, hvs⟩ := (HM.out _ hB).row
      obtain ⟨vi, hvi, hoi⟩ := hvs k hlt
      obtain ⟨A2, c2, hv2, hle, hcells⟩ := own_shape hown
      simp only [Value.slice.injEq, true_and] at hv2
      obtain ⟨rfl, rfl⟩ := hv2
      obtain ⟨gf, rfl, hgf, lgf, hcf, _⟩ := hcells (by omega)
      obtain ⟨Ai, ci, rfl, hRi⟩ := Row.own hoi
      have hck := (hcf k (by omega)).trans hvi
      have hkc : (k : Int) < (nf : Int) := by omega
      have hk0 : (0 : Int) ≤ (k : Int) := by omega
      rw [← hpl] at hRi
      have hcall := Lib.hid (openFn_any (P k) ns Ai ci A' c' b wr (by omega) h2 (fun n hn => by rw [hpl]; exact HNS.out n hn) hRi (HN.out _ hB) (HC.out _ hB) (HE.out _ hB) hgd hlw)
      rw [hpl] at hcall
      clear hRi hown hvs hoi hcells hcf hvi hgd hlw hpl
      go_wp2_with fail
      refine hcall.out.mono ?_
      rintro e w1 ⟨r, rfl, HR, hB1⟩
      have hBB := hB.trans (hB1.mono (Below.size hB))
      clear hcall hck
      cases r
      · have HI2 : Hid (∀ i, i < k + 1 → Cov (P i) ns) := Lib.hid fun i hi => by
          by_cases e : i = k
          · subst e; exact HR.out.1 rfl
          · exact HI.out i (by omega)
        go_wp2
        refine ⟨⟨k + 1, by omega, by go_num, HI2, hBB⟩, by simp [intOf]; omega⟩
      · have HX : Hid (∃ i, i < nf ∧ ¬ Cov (P i) ns) := Lib.hid ⟨k, hlt, HR.out.2 rfl⟩
        go_wp2
        go_ret
        exact ⟨(k : Int), rfl, Lib.hid ⟨fun h => absurd h (by omega), fun _ => HX.out⟩, hBB⟩
    · obtain rfl : k = nf := by omega
      go_wp2
      go_ret
      exact ⟨-1, rfl, Lib.hid ⟨fun _ => HI.out, fun h => absurd h (by omega)⟩, hB⟩

set_option maxRecDepth 100000 in
set_option maxHeartbeats 1000000 in
theorem hasOpen_any (nf n : Nat) (P : Nat → List GP) (ns : List Nat) (Af : Option Addr) (cf base : Nat) (A' : Option Addr) (c' b : Nat) (w : World) (hnf : nf ≤ 1000) (hn : n ≤ 1000) (h2 : ns.length ≤ 1000) (hns : ∀ k ∈ ns, k < n) (M : Planes w base (.slice Af nf cf) nf n P) (hN : Row w w.heap.size 1 A' ns.length (natsC ns)) (hc : w.cell? ⟨b, 0, none⟩ = some (.slice A' ns.length c')) (hE : Ends w) (hG : GoodP nf n P) :
    Calls Tryz.prog 27 #[.slice Af nf cf, .func (.func 26) #[] #[.pointer (some ⟨b, 0, none⟩)]] w fun e w' => ∃ r : Bool, e = .returned (.bool r) ∧ Hid ((r = false → ∀ i, i < nf → Cov (P i) ns) ∧ (r = true → ∃ i, i < nf ∧ ¬ Cov (P i) ns)) ∧ Below w.heap.size w w' := by
  have H := Lib.hid (indexOpen_any nf n P ns Af cf base A' c' b w hnf hn h2 hns M hN hc hE hG)
  clear M hN hc hE hG hns
  go_enter Tryz.func27, Tryz.ntmps27
  go_wp2_with fail
  refine H.out.mono ?_
  rintro e w1 ⟨r, rfl, HR, hB1⟩
  go_wp2
  go_ret
  refine ⟨decide (0 ≤ r), rfl, Lib.hid ⟨fun h => HR.out.1 ?_, fun h => HR.out.2 ?_⟩, hB1⟩
  · have := of_decide_eq_false h; omega
  · exact of_decide_eq_true h
end Go.Proofs.YtlnkgjkjdllckaaGreatDoor

namespace Go.Proofs.YtlnkgjkjdllckaaGreatDoor
open Go.RowKit Go.Shelf

/-- The marks of blocks. -/
def marksOf (Ds : List Nat) : List Deferred := Ds.map fun D => { target := .collected D, args := #[] }
/-- Blocks for deferred calls that hold none, from n₀ on. -/
structure Marks (n₀ : Nat) (Ds : List Nat) (w : World) : Prop where
  nodup : Ds.Nodup
  from_ : ∀ D ∈ Ds, n₀ ≤ D
  hold : ∀ D ∈ Ds, w.heap[D]? = some (.deferred (some []))
theorem Marks.nil (n₀ : Nat) (w : World) : Marks n₀ [] w := ⟨List.nodup_nil, (fun _ h => by cases h), (fun _ h => by cases h)⟩
theorem Marks.lt {n₀ : Nat} {Ds : List Nat} {w : World} (h : Marks n₀ Ds w) {D : Nat} (hD : D ∈ Ds) : D < w.heap.size := (Array.getElem?_eq_some_iff.1 (h.hold D hD)).1
theorem Marks.keep {n₀ : Nat} {Ds : List Nat} {w w' : World} (h : Marks n₀ Ds w) (hk : ∀ D, D ∈ Ds → w'.heap[D]? = w.heap[D]?) : Marks n₀ Ds w' :=
  ⟨h.nodup, h.from_, fun D hD => (hk D hD).trans (h.hold D hD)⟩
theorem Marks.gr {n₀ : Nat} {Ds : List Nat} {w w' : World} (h : Marks n₀ Ds w) (hb : Gr w w') : Marks n₀ Ds w' := h.keep fun D hD => hb.block D (h.lt hD)
theorem Marks.grown {n₀ : Nat} {Ds : List Nat} {w w' : World} {row : Option Nat} (h : Marks n₀ Ds w) (hb : w.grownBy w' row) (hr : ∀ r o, row = some r → w.heap[r]? = some o → ∃ o', w.heap[r]? = some o' ∧ o' ≠ .deferred (some [])) : Marks n₀ Ds w' :=
  h.keep fun D hD => hb.block D (h.lt hD) (fun e => by
    obtain ⟨o', h1, h2⟩ := hr D _ e.symm (h.hold D hD)
    rw [h.hold D hD] at h1
    exact h2 (Option.some.inj h1).symm)
theorem Marks.alloc {n₀ : Nat} {Ds : List Nat} {w : World} (h : Marks n₀ Ds w) (o : Obj) : Marks n₀ Ds (w.alloc o) := h.keep fun D hD => Below.heap_alloc w o D (h.lt hD)
theorem Marks.setCell {n₀ : Nat} {Ds : List Nat} {w : World} (h : Marks n₀ Ds w) {g o : Nat} {cs : Array Value} {t : TypeId} (hb : Blk w g t cs) (u : Value) : Marks n₀ Ds (w.setCell ⟨g, o, none⟩ u) :=
  h.keep fun D hD => Below.heap_setCell w _ u D (fun e => by
    have h1 := h.hold D hD
    rw [e] at h1
    have h2 : w.heap[g]? = some (.cells cs t (0, 0)) := hb
    rw [h2] at h1; cases h1)
theorem Marks.cons {n₀ : Nat} {Ds : List Nat} {w : World} (h : Marks n₀ Ds w) {D B : Nat} (hlt : ∀ D' ∈ Ds, D' < B) (hB : B ≤ D) (hn : n₀ ≤ D) (hD : w.heap[D]? = some (.deferred (some []))) : Marks n₀ (D :: Ds) w :=
  ⟨List.nodup_cons.2 ⟨fun hm => by have := hlt D hm; omega, h.nodup⟩, fun X hX => by
    rcases List.mem_cons.1 hX with rfl | hX
    · exact hn
    · exact h.from_ X hX, fun X hX => by
    rcases List.mem_cons.1 hX with rfl | hX
    · exact hD
    · exact h.hold X hX⟩

/-- Nothing has turned but that blocks for deferred calls, from n₀ on, are shut. -/
structure Shut (n₀ : Nat) (w w' : World) : Prop where
  below : Below n₀ w w'
  same : ∀ (i : Nat) (o : Obj), w.heap[i]? = some o → o ≠ Obj.deferred (some []) → w'.heap[i]? = some o
theorem Shut.refl (n₀ : Nat) (w : World) : Shut n₀ w w := ⟨Below.refl _ _, fun _ _ h _ => h⟩
theorem Shut.put {n₀ D : Nat} {w w' : World} (h : Shut n₀ (w.putObj D (.deferred none)) w') (hn : n₀ ≤ D) (hD : w.heap[D]? = some (.deferred (some []))) : Shut n₀ w w' := by
  refine ⟨⟨h.below.os, h.below.tape, h.below.output, by have := h.below.size; simpa using this, fun k hk => (h.below.block k hk).trans (World.putObj_heap_other (by omega))⟩, fun i o hi ho => h.same i o ?_ ho⟩
  rw [World.putObj_heap_other (fun e => by rw [e, hD] at hi; exact ho (Option.some.inj hi).symm)]
  exact hi
theorem Shut.blk {n₀ g : Nat} {w w' : World} {t : TypeId} {cs : Array Value} (h : Shut n₀ w w') (hb : Blk w g t cs) : Blk w' g t cs := h.same g _ hb (fun e => by cases e)
theorem Shut.own {n₀ base e size n : Nat} {w w' : World} {v : Value} {xs : List Value} (h : Shut n₀ w w') (ho : w.ownsRow base e size v n xs) : w'.ownsRow base e size v n xs := by
  refine ⟨ho.1, ?_⟩
  rcases ho.2 with h0 | ⟨g, cap, cur, hv, hb, hh, r⟩
  · exact .inl h0
  · exact .inr ⟨g, cap, cur, hv, hb, h.same g _ hh (fun e => by cases e), r⟩

theorem leaves_marks {P : Program} {F : Fence} {n : Nat} {fn : Func} {tmps : Array Value} {R : Ending → World → Prop} {n₀ : Nat} : ∀ (Ds : List Nat) (w : World), Marks n₀ Ds w →
    (∀ w', Shut n₀ w w' → ∃ v, (results fn tmps).run P w' = .ok v w' ∧ R (.returned v) w') → LeavesInM F n P fn tmps R (marksOf Ds) .returning w
  | [], w, _, h => h w (Shut.refl _ _)
  | D :: Ds, w, hM, h => by
    have hD := hM.hold D (by simp)
    have hn := hM.from_ D (by simp)
    refine ⟨by simp, .inl ⟨D, _, rfl, run_takeDeferred hD, ?_⟩⟩
    refine leaves_marks Ds _ ⟨(List.nodup_cons.1 hM.nodup).2, fun X hX => hM.from_ X (by simp [hX]), fun X hX => ?_⟩ (fun w' hs => h w' (hs.put hn hD))
    rw [World.putObj_heap_other (fun e => (List.nodup_cons.1 hM.nodup).1 (by rw [← e]; exact hX))]
    exact hM.hold X (by simp [hX])
theorem ret_marks {P : Program} {F : Fence} {n : Nat} {fn : Func} {tmps : Array Value} {R : Ending → World → Prop} {n₀ : Nat} {Ds : List Nat} {w : World} (hM : Marks n₀ Ds w)
    (h : ∀ w', Shut n₀ w w' → ∃ v, (results fn tmps).run P w' = .ok v w' ∧ R (.returned v) w') : bodyPostM F n P fn R .ret { tmps := tmps, defers := marksOf Ds } w := leaves_marks Ds w hM h
theorem ownFrom_marks {β : Type} (n₀ B : Nat) (Ds : List Nat) (hlt : ∀ D ∈ Ds, D < B) : OwnFrom B (fun (_ : β) W => Marks n₀ Ds W) := fun _ W W' row hs hg hr =>
  hs.keep fun D hD => hg.block D (hs.lt hD) (fun e => by have := (hr D e.symm).1; have := hlt D hD; omega)
end Go.Proofs.YtlnkgjkjdllckaaGreatDoor

namespace Go.Proofs
open Go.Shelf
def Tryz.laysNm215_ren : Go.Shelf.Ren := ⟨fun | 15 => 28 | n => n, fun | 22 => 43 | 3 => 3 | 4 => 4 | n => n, fun | n => n⟩
theorem Tryz.laysNm215 : Go.Proofs.Lays2.n15 Tryz.prog Tryz.laysNm215_ren := {
  mixed := by kernel_rfl
  f15 := Tryz.func28.trans (congrArg some (by kernel_rfl))
  t3 := Tryz.underlying3
  a3 := Tryz.isAgg3
  z3 := Tryz.sizeOf3
  v3 := Tryz.zeroValue3
  t4 := Tryz.underlying4
  a4 := Tryz.isAgg4
  z4 := Tryz.sizeOf4
  v4 := Tryz.zeroValue4
  t22 := Tryz.underlying43
  a22 := Tryz.isAgg43
  z22 := Tryz.sizeOf43
  v22 := Tryz.zeroValue43
  i3 := by kernel_rfl }
open Go.RowKit Go.Lib in
/-- slices.Clone at []int: "Clone returns a copy of the slice. The elements are copied using assignment, so this is a shallow clone. The result may have additional unused capacity. The result preserves the nilness of s.": OF A SLICE THAT IS NOT nil IT RETURNS A SLICE THAT IS NOT nil, OF THE SAME ELEMENTS, IN MEMORY OF THE CALL's OWN: in the how-to's words (6f): 'w'.ownsRow B e 1 v' n cells': v' begins at the head of a row among the blocks from B on (B: the heap's size at the call), not frozen, whose first cells are the elements · 'Below B w w'': below B all is as it was. The capacity is whatever the run-time gives. 'zs': what the cells behind the slice's address hold; 'zs.take n': its elements. (LAID: no walk: one application.) -/
theorem Tryz.slices_Clone_int (b off n c : Nat) (zs : List Int) (w : World) (hz : n ≤ zs.length) (hbig : n * 8 ≤ 140737488355328) (hc : ∀ j, j < zs.length → w.cell? ⟨b, off + j, none⟩ = some (.int .i64 (zs.getD j 0))) :
    Calls Tryz.prog 28 #[.slice (some ⟨b, off, none⟩) n c] w fun e w' => ∃ v', e = .returned v' ∧ w'.ownsRow w.heap.size 3 1 v' n ((zs.take n).map (Value.int .i64)) ∧ v' ≠ .slice none 0 0 ∧ Below w.heap.size w w' := Any.slices_Clone_int Tryz.laysNm215 b off n c zs w hz hbig hc
open Go.RowKit Go.Lib in
/-- The same at nil: nil comes back; the world is as it was. (LAID: no walk: one application.) -/
theorem Tryz.slices_Clone_int_nil (n c : Nat) (w : World) :
    Calls Tryz.prog 28 #[.slice none n c] w fun e w' => e = .returned (.slice none 0 0) ∧ w' = w := Any.slices_Clone_int_nil Tryz.laysNm215 n c w
end Go.Proofs

namespace Go.Proofs.YtlnkgjkjdllckaaGreatDoor
open Go.RowKit Go.Shelf

theorem clone_any (zs : List Nat) (A : Option Addr) (c : Nat) (w : World) (hl : zs.length ≤ 1000) (hR : Row w w.heap.size 1 A zs.length (natsC zs)) (hA : ∀ a, A = some a → ∃ g, a = ⟨g, 0, none⟩) :
    Calls Tryz.prog 28 #[.slice A zs.length c] w fun e w' => ∃ A2 c2, e = .returned (.slice A2 zs.length c2) ∧ Below w.heap.size w w' := by
  rcases Nat.eq_zero_or_pos zs.length with h0 | h0
  · cases A with
    | none =>
      refine (Tryz.slices_Clone_int_nil _ _ _).mono ?_
      rintro e w' ⟨rfl, rfl⟩
      exact ⟨none, 0, by rw [h0], Below.refl _ _⟩
    | some a =>
      obtain ⟨g, rfl⟩ := hA a rfl
      refine (Tryz.slices_Clone_int g 0 zs.length c [] w (by rw [h0]; exact Nat.le_refl _) (by omega) (fun j hj => by simp at hj)).mono ?_
      rintro e w' ⟨v, rfl, own, _, hB⟩
      obtain ⟨A2, c2, rfl, _, _⟩ := own_shape own
      exact ⟨A2, c2, rfl, hB⟩
  · obtain ⟨g, o, rfl, hg, hc⟩ := hR.2 h0
    refine (Tryz.slices_Clone_int g o zs.length c (zs.map fun (n : Nat) => (n : Int)) w (by simp) (by omega) (fun j hj => ?_)).mono ?_
    · have hj2 : j < zs.length := by simpa using hj
      rw [hc j _ (natsC_get zs j hj2), List.getD_eq_getElem?_getD, List.getElem?_map, List.getElem?_eq_getElem hj2]
      rfl
    · rintro e w' ⟨v, rfl, own, _, hB⟩
      obtain ⟨A2, c2, rfl, _, _⟩ := own_shape own
      exact ⟨A2, c2, rfl, hB⟩

/-- What lies in memory while the least plan is looked for. -/
structure LeM (V : World) (z4 z5 z6 n₀ base nf N : Nat) (Af : Option Addr) (cf : Nat) (P : Nat → List GP) : Prop where
  b4 : Blk V z4 43 #[.slice none 0 0]
  b5 : Blk V z5 38 #[.int .i64 0]
  b6 : Blk V z6 73 #[.slice Af nf cf]
  pl : Planes V base (.slice Af nf cf) nf N P
  ends : Ends V
  low4 : n₀ ≤ z4
  low5 : n₀ ≤ z5
  low : n₀ ≤ V.heap.size
theorem LeM.gr {V W : World} {z4 z5 z6 n₀ base nf N cf : Nat} {Af : Option Addr} {P : Nat → List GP} (h : LeM V z4 z5 z6 n₀ base nf N Af cf P) (g : Gr V W) : LeM W z4 z5 z6 n₀ base nf N Af cf P :=
  ⟨h.b4.gr g, h.b5.gr g, h.b6.gr g, h.pl.gr g, h.ends.below g, h.low4, h.low5, Nat.le_trans h.low (Below.size g)⟩
theorem blk_putLoop {W : World} {l g : Nat} {r r' : Loop} {t : TypeId} {cs : Array Value} (h : W.heap[l]? = some (.loop r)) (hb : Blk W g t cs) : Blk (W.putObj l (.loop r')) g t cs := by
  refine (World.putObj_heap_other (fun e => ?_)).trans hb
  have h2 : W.heap[g]? = some (.cells cs t (0, 0)) := hb
  rw [e, h] at h2; cases h2

attribute [local go_sem] Oper.semAt_some

set_option maxRecDepth 100000 in
set_option maxHeartbeats 8000000 in
theorem lpRound {V : World} {z4 z5 z6 n₀ base nf N c1 cf : Nat} {A1 Af : Option Addr} {P : Nat → List GP} (M : LeM V z4 z5 z6 n₀ base nf N Af cf P) (hnf : nf ≤ 1000) (hN : N ≤ 100) (HG : Hid (GoodP nf N P)) {idx : List Nat} (HI : Hid (idx ∈ subs N 0 idx.length ∧ ∀ i, i < nf → Cov (P i) idx)) (hiN : idx.length ≤ N) (c : Nat) (hc : c ≤ idx.length) (Ds : List Nat) (wr : World) (hG : Gr V wr) (hMk : Marks n₀ Ds wr) (K' : Act → World → Prop) (Q' : Exit → Act → World → Prop) {t0 t2 t3 t7 t8 t9 t10 t11 t12 t13 t14 t15 t16 t17 t18 t19 t20 t21 t24 t25 t26 t27 t28 t29 t30 t31 t32 t33 t34 t35 t36 t37 t38 : Value}
    (hnext : ∀ (t0 t2 t3 t7 t8 t9 t10 t11 t12 t13 t14 t15 t16 t17 t18 t19 t20 t21 t24 t25 t26 t27 t28 t29 t30 t31 t32 t33 t34 t35 t36 t37 t38 : Value) (Ds : List Nat) (wr : World), c < idx.length → Gr V wr → Marks n₀ Ds wr → K' ⟨#[t0, .slice A1 N c1, t2, t3, .pointer (some ⟨z4, 0, none⟩), .pointer (some ⟨z5, 0, none⟩), .pointer (some ⟨z6, 0, none⟩), t7, t8, t9, t10, t11, t12, t13, t14, t15, t16, t17, t18, t19, t20, t21, .int .i64 ((N : Int) + 1), .int .i64 ((c + 1 : Nat) : Int), t24, t25, t26, t27, t28, t29, t30, t31, t32, t33, t34, t35, t36, t37, t38], marksOf Ds⟩ wr)
    (hret : ∀ (t0 t2 t3 t7 t8 t9 t10 t11 t12 t13 t14 t15 t16 t17 t18 t19 t20 t21 t24 t25 t26 t27 t28 t29 t30 t31 t32 t33 t34 t35 t36 t37 t38 : Value) (Ds : List Nat) (w' : World) (Ar : Option Addr) (cr : Nat) (ns : List Nat), ns.length = c → (∀ i, i < nf → Cov (P i) ns) → Below n₀ V w' → Blk w' z4 43 #[.slice Ar ns.length cr] → Blk w' z5 38 #[.int .i64 0] → Marks n₀ Ds w' → Q' .ret ⟨#[t0, .slice A1 N c1, t2, t3, .pointer (some ⟨z4, 0, none⟩), .pointer (some ⟨z5, 0, none⟩), .pointer (some ⟨z6, 0, none⟩), t7, t8, t9, t10, t11, t12, t13, t14, t15, t16, t17, t18, t19, t20, t21, .int .i64 ((N : Int) + 1), .int .i64 (c : Int), t24, t25, t26, t27, t28, t29, t30, t31, t32, t33, t34, t35, t36, t37, t38], marksOf Ds⟩ w') :
    (bodyOf Tryz.f10 0).wp Tryz.prog (Exit.then K' Q') ⟨#[t0, .slice A1 N c1, t2, t3, .pointer (some ⟨z4, 0, none⟩), .pointer (some ⟨z5, 0, none⟩), .pointer (some ⟨z6, 0, none⟩), t7, t8, t9, t10, t11, t12, t13, t14, t15, t16, t17, t18, t19, t20, t21, .int .i64 ((N : Int) + 1), .int .i64 (c : Int), t24, t25, t26, t27, t28, t29, t30, t31, t32, t33, t34, t35, t36, t37, t38], marksOf Ds⟩ wr := by
  have HN := Lib.hid hnext; have HR := Lib.hid hret
  clear hnext hret
  conv in (bodyOf _ _) => whnf
  have hcI : (c : Int) < (N : Int) + 1 := by omega
  have hsz0 := Below.size hG
  go_wp2_with fail
  refine (chosen_any c N wr).mono ?_
  rintro e wb ⟨rfl, hwb⟩
  have hgB : Gr wr wb := by rw [hwb]; exact ((Below.refl _ _).alloc (Nat.le_refl _) _).alloc (by simp) _
  have bc : Boxed wb wr.heap.size 3 (.int .i64 (c : Int)) := by rw [hwb]; exact (Boxed.new wr 3 (.int .i64 (c : Int))).alloc _
  have bn : Boxed wb (wr.heap.size + 1) 3 (.int .i64 (N : Int)) := by
    have := Boxed.new (wr.alloc (.cells #[.int .i64 (c : Int)] 3)) 3 (.int .i64 (N : Int))
    rw [World.size_alloc] at this
    rw [hwb]; exact this
  clear hwb
  have hGB : Gr V wb := Gr.trans hG hgB
  have MB := M.gr hGB
  have hMkB := hMk.gr hgB
  have hlt0 : ∀ D ∈ Ds, D < wb.heap.size := fun D hD => hMkB.lt hD
  clear hG hMk hgB
  try dsimp only
  go_wp2_with fail
  refine wpIn_wide.1 (wpIn_rangeFunc_V (n := 5) rfl (by omega) (gf := 49) (lb := #[.pointer (some ⟨wr.heap.size, 0, none⟩), .pointer (some ⟨wr.heap.size + 1, 0, none⟩)]) rfl trivial (enters_of Tryz.func49 (by kernel_rfl) rfl) (Px := PxL) (xs := subs N 0 c)
    (chosen_seq (by omega) hN wb 4 bc bn) rfl
    (fun pre W => Below wb.heap.size wb W ∧ Marks n₀ Ds W ∧ ∀ x ∈ pre, ∃ i, i < nf ∧ ¬ Cov (P i) x)
    (fun _ W => ∃ (Ar : Option Addr) (cr : Nat) (ns : List Nat), ns.length = c ∧ (∀ i, i < nf → Cov (P i) ns) ∧ Below n₀ V W ∧ Blk W z4 43 #[.slice Ar ns.length cr] ∧ Blk W z5 38 #[.int .i64 0] ∧ Marks n₀ Ds W) ?hI ?hIx ?hIb ?h0
    (fun v a' W W' => a' = ⟨#[t0, .slice A1 N c1, t2, t3, .pointer (some ⟨z4, 0, none⟩), .pointer (some ⟨z5, 0, none⟩), .pointer (some ⟨z6, 0, none⟩), t7, .int .i64 (c : Int), .pointer (some ⟨W.heap.size, 0, none⟩), t10, t11, t12, t13, t14, t15, t16, t17, t18, t19, t20, t21, .int .i64 ((N : Int) + 1), .int .i64 (c : Int), .bool true, .int .i64 (c : Int), .int .i64 (c : Int), .slice A1 N c1, .int .i64 (N : Int), .func (.func 49) #[] #[.pointer (some ⟨wr.heap.size, 0, none⟩), .pointer (some ⟨wr.heap.size + 1, 0, none⟩)], v, t31, t32, t33, t34, t35, t36, t37, t38], []⟩ ∧ Boxed W' W.heap.size 43 v) ?assign ?body ?done ?stop)
  case hI =>
    rintro pre X Y row ⟨h1, h2, h3⟩ hg hr
    exact ⟨h1.grown hg (Below.size h1) (fun r e => (hr r e).1), ownFrom_marks (β := Unit) n₀ wb.heap.size Ds hlt0 () X Y row h2 hg hr, h3⟩
  case hIx =>
    rintro pre X Y row ⟨Ar, cr, ns, h1, h2, h3, h4, h5, h6⟩ hg hr
    have key : ∀ {G : Nat} {t : TypeId} {cs : Array Value}, Blk X G t cs → some G ≠ row := fun {G t cs} hb e => by
      obtain ⟨_, o, ho, hc⟩ := hr _ e.symm
      rw [show X.heap[G]? = _ from hb] at ho
      cases ho; cases hc
    exact ⟨Ar, cr, ns, h1, h2, h3.grown hg (by have := h3.size; have := M.low; omega) (fun r e => by have := (hr r e).1; have := M.low; have := Below.size hGB; omega), h4.grown hg (key h4), h5.grown hg (key h5), ownFrom_marks (β := Unit) n₀ wb.heap.size Ds hlt0 () X Y row h6 hg hr⟩
  case hIb =>
    rintro pre X Y ⟨h1, h2, h3⟩ hB
    exact ⟨h1.trans hB, h2.keep fun D hD => hB.block D (hlt0 D hD), h3⟩
  case h0 => exact ⟨Below.refl _ _, hMkB, fun x h => by cases h⟩
  case assign =>
    rintro l pre x v W K hIp ⟨A, cx, rfl, _⟩ hK
    dsimp only [List.zip_cons_cons]
    gi_wp2
    exact hK _ _ ((Below.refl _ _).alloc (Nat.le_refl _) _) ⟨rfl, Boxed.new _ _ _⟩
  case body =>
    rintro l pre x v a' W Wa r r' hl hpx ⟨hBW0, _, _⟩ ⟨A, cx, rfl, hcx, hcm, hAx, hRx⟩ hga ⟨rfl, hbx⟩ hrec ⟨hBW, hmW, hpre⟩
    try dsimp only
    have hbx' : Blk (Wa.putObj l (.loop r')) W.heap.size 43 #[.slice A x.length cx] := blk_putLoop hrec hbx
    have hRx' : Row (Wa.putObj l (.loop r')) (Wa.putObj l (.loop r')).heap.size 1 A x.length (natsC x) := by
      have h1 := (hRx.below hga (Nat.le_refl _)).keep (w' := Wa.putObj l (.loop r')) (fun b o _ => cell_putLoop hrec _)
      exact h1.more (by rw [World.putObj_size]; exact hga.size)
    generalize Wa.putObj l (.loop r') = Wb at *
    obtain ⟨q, hq⟩ : ∃ q, W.heap.size = q := ⟨_, rfl⟩
    rw [hq] at hbx' ⊢
    have hxm := (subs_mem N 0 c x).1 (hpx.subset (by simp))
    clear hq hga hbx hrec hRx hBW0
    have MW := MB.gr hBW
    have hcall := Lib.hid (hasOpen_any nf N P x Af cf base A cx q Wb hnf (by omega) (by omega) (fun k hk => by have := hxm.2.2 k hk; omega) MW.pl hRx' (hbx'.cell 0) MW.ends HG.out)
    have c6 := MW.b6.cell 0
    have l6 := MW.b6.lt
    have cq := hbx'.cell 0
    have lq := hbx'.lt
    have c4 := MW.b4.cell 0
    have f4 := MW.b4.frozen
    have l4 := MW.b4.lt
    have c5 := MW.b5.cell 0
    have f5 := MW.b5.frozen
    have l5 := MW.b5.lt
    have hne : z4 ≠ z5 := Blk.ne_ MW.b4 MW.b5 (by decide)
    have HXL := Lib.hid hxm.1
    have HMW := Lib.hid MW
    have HPRE := Lib.hid hpre
    have HRX := Lib.hid hRx'
    have HBQ := Lib.hid hbx'
    clear hxm MW hpre hRx' hbx'
    try simp at c6 cq c4 c5
    gi_wp2_with fail
    refine ⟨trivial, ?_⟩
    gi_at_call 27
    refine (CallsIn.inRound l (callsIn_wide.2 hcall.out)).mono ?_
    rintro e W2 ⟨b, rfl, HB, hB2⟩
    clear hcall
    have hBW2 := hBW.trans (hB2.mono (Below.size hBW))
    have hmW2 := hmW.gr hB2
    cases b
    · have MW2 := HMW.out.gr hB2
      have bq2 := HBQ.out.gr hB2
      have c4' := MW2.b4.cell 0
      have f4' := MW2.b4.frozen
      have l4' := MW2.b4.lt
      have c5' := MW2.b5.cell 0
      have f5' := MW2.b5.frozen
      have l5' := MW2.b5.lt
      have cq' := bq2.cell 0
      have lq' := bq2.lt
      have HR2 := Lib.hid ((HRX.out.below hB2 (Nat.le_refl _)).more (Below.size hB2))
      have HM2 := Lib.hid MW2
      clear MW2 bq2 c6 l6 cq lq c4 f4 l4 c5 f5 l5
      try simp at c4' c5' cq'
      have HCV : Hid (∀ i, i < nf → Cov (P i) x) := Lib.hid (HB.out.1 rfl)
      gi_wp2_with fail
      refine ⟨trivial, ?_⟩
      gi_at_call 28
      refine (CallsIn.inRound l (callsIn_wide.2 (clone_any x A cx W2 (by have := HXL.out; omega) HR2.out hAx))).mono ?_
      rintro e W3 ⟨A2, c2, rfl, hB3⟩
      have MW3 := HM2.out.gr hB3
      have hBW3 := hBW2.trans (hB3.mono (Below.size hBW2))
      have hmW3 := hmW2.gr hB3
      have hBB3 := hB2.trans (hB3.mono (Below.size hB2))
      clear c4' f4' l4' c5' f5' l5' cq' lq'
      have c4 := MW3.b4.cell 0
      have f4 := MW3.b4.frozen
      have l4 := MW3.b4.lt
      have c5 := MW3.b5.cell 0
      have f5 := MW3.b5.frozen
      have l5 := MW3.b5.lt
      have HM3 := Lib.hid MW3
      clear MW3
      try simp at c4 c5
      gi_wp2_with fail
      have hkf : KeepsFrom wb.heap.size Wb W3 := ⟨hBB3.size, fun k o _ h0 _ => (hBB3.block k (Array.getElem?_eq_some_iff.1 h0).1).trans h0⟩
      refine ⟨hkf.trans (((KeepsOthers.setCell _ _ _).trans (KeepsOthers.setCell _ _ _)).from _), A2, c2, x, HXL.out, HCV.out, ?_, ?_, ?_, ?_⟩
      · exact (((hGB.mono M.low).trans (hBW3.mono MB.low)).setCell M.low4 _).setCell M.low5 _
      · exact (HM3.out.b4.set_ 0 _).far (p := ⟨z5, 0, none⟩) hne _
      · exact (HM3.out.b5.far (p := ⟨z4, 0, none⟩) (Ne.symm hne) _).set_ 0 _
      · exact (hmW3.setCell HM3.out.b4 _).setCell (HM3.out.b5.far (p := ⟨z4, 0, none⟩) (Ne.symm hne) _) _
    · have HX : Hid (∃ i, i < nf ∧ ¬ Cov (P i) x) := Lib.hid (HB.out.2 rfl)
      clear c6 l6 cq lq c4 f4 l4 c5 f5 l5
      gi_wp2_with fail
      refine ⟨hB2, hBW2, hmW2, fun y hy => ?_⟩
      rcases List.mem_append.1 hy with hy | hy
      · exact HPRE.out y hy
      · obtain rfl := List.mem_singleton.1 hy
        exact HX.out
  case done =>
    rintro D W hD ⟨hBW, hmW, hall⟩ hdf
    have hcl : c < idx.length := by
      rcases Nat.lt_or_eq_of_le hc with h | h
      · exact h
      · obtain ⟨i, hi, hn⟩ := hall idx (by rw [h]; exact HI.out.1)
        exact absurd (HI.out.2 i hi) hn
    have HMC : Hid (Marks n₀ (D :: Ds) W) := Lib.hid (hmW.cons hlt0 hD (Nat.le_trans MB.low hD) hdf)
    have HGV : Hid (Gr V W) := Lib.hid (Gr.trans hGB hBW)
    clear hBW hmW hall hdf
    try dsimp only
    go_wp2_with fail
    exact HN.out _ _ _ _ _ _ _ _ _ _ _ _ _ _ _ _ _ _ _ _ _ _ _ _ _ _ _ _ _ _ _ _ _ (D :: Ds) _ hcl HGV.out HMC.out
  case stop =>
    rintro D pre W hD hpre ⟨Ar, cr, ns, h1, h2, h3, h4, h5, h6⟩ hdf
    have HMC : Hid (Marks n₀ (D :: Ds) W) := Lib.hid (h6.cons hlt0 hD (Nat.le_trans MB.low hD) hdf)
    have H1 := Lib.hid h1; have H2 := Lib.hid h2; have H3 := Lib.hid h3; have H4 := Lib.hid h4; have H5 := Lib.hid h5
    clear h1 h2 h3 h4 h5 h6 hdf hpre
    gi_wp2
    exact HR.out _ _ _ _ _ _ _ _ _ _ _ _ _ _ _ _ _ _ _ _ _ _ _ _ _ _ _ _ _ _ _ _ _ (D :: Ds) _ Ar cr ns H1.out H2.out H3.out H4.out H5.out HMC.out

set_option maxRecDepth 100000 in
set_option maxHeartbeats 8000000 in
theorem lpLoop {V : World} {z4 z5 z6 n₀ base nf N c1 cf : Nat} {A1 Af : Option Addr} {P : Nat → List GP} (M : LeM V z4 z5 z6 n₀ base nf N Af cf P) (hnf : nf ≤ 1000) (hN : N ≤ 100) (HG : Hid (GoodP nf N P)) {idx : List Nat} (HI : Hid (idx ∈ subs N 0 idx.length ∧ ∀ i, i < nf → Cov (P i) idx)) (hiN : idx.length ≤ N) (wr : World) (hG : Gr V wr) (Q' : Exit → Act → World → Prop) {t0 t2 t3 t7 t8 t9 t10 t11 t12 t13 t14 t15 t16 t17 t18 t19 t20 t21 t24 t25 t26 t27 t28 t29 t30 t31 t32 t33 t34 t35 t36 t37 t38 : Value}
    (hret : ∀ (t0 t2 t3 t7 t8 t9 t10 t11 t12 t13 t14 t15 t16 t17 t18 t19 t20 t21 t24 t25 t26 t27 t28 t29 t30 t31 t32 t33 t34 t35 t36 t37 t38 : Value) (c : Nat) (Ds : List Nat) (w' : World) (Ar : Option Addr) (cr : Nat) (ns : List Nat), ns.length ≤ idx.length → (∀ i, i < nf → Cov (P i) ns) → Below n₀ V w' → Blk w' z4 43 #[.slice Ar ns.length cr] → Blk w' z5 38 #[.int .i64 0] → Marks n₀ Ds w' → Q' .ret ⟨#[t0, .slice A1 N c1, t2, t3, .pointer (some ⟨z4, 0, none⟩), .pointer (some ⟨z5, 0, none⟩), .pointer (some ⟨z6, 0, none⟩), t7, t8, t9, t10, t11, t12, t13, t14, t15, t16, t17, t18, t19, t20, t21, .int .i64 ((N : Int) + 1), .int .i64 (c : Int), t24, t25, t26, t27, t28, t29, t30, t31, t32, t33, t34, t35, t36, t37, t38], marksOf Ds⟩ w') :
    (Code.loop (bodyOf Tryz.f10 0)).wp Tryz.prog Q' ⟨#[t0, .slice A1 N c1, t2, t3, .pointer (some ⟨z4, 0, none⟩), .pointer (some ⟨z5, 0, none⟩), .pointer (some ⟨z6, 0, none⟩), t7, t8, t9, t10, t11, t12, t13, t14, t15, t16, t17, t18, t19, t20, t21, .int .i64 ((N : Int) + 1), .int .i64 ((0 : Nat) : Int), t24, t25, t26, t27, t28, t29, t30, t31, t32, t33, t34, t35, t36, t37, t38], marksOf []⟩ wr := by
  refine wp_loop_ghost (fun m a' wr => ∃ (v : Nat → Value) (c : Nat) (Ds : List Nat), a' = ⟨#[v 0, .slice A1 N c1, v 2, v 3, .pointer (some ⟨z4, 0, none⟩), .pointer (some ⟨z5, 0, none⟩), .pointer (some ⟨z6, 0, none⟩), v 7, v 8, v 9, v 10, v 11, v 12, v 13, v 14, v 15, v 16, v 17, v 18, v 19, v 20, v 21, .int .i64 ((N : Int) + 1), .int .i64 (c : Int), v 24, v 25, v 26, v 27, v 28, v 29, v 30, v 31, v 32, v 33, v 34, v 35, v 36, v 37, v 38], marksOf Ds⟩ ∧ m + c = idx.length ∧ Gr V wr ∧ Marks n₀ Ds wr) idx.length ⟨fun k => (#[t0, undef, t2, t3, undef, undef, undef, t7, t8, t9, t10, t11, t12, t13, t14, t15, t16, t17, t18, t19, t20, t21, undef, undef, t24, t25, t26, t27, t28, t29, t30, t31, t32, t33, t34, t35, t36, t37, t38] : Array Value).getD k undef, 0, [], rfl, by omega, hG, Marks.nil _ _⟩ ?_
  clear hG
  rintro m a' wr ⟨v, c, Ds, rfl, hmc, hG, hMk⟩
  refine lpRound M hnf hN HG HI hiN c (by omega) Ds wr hG hMk _ _ ?_ ?_
  · intro t0 t2 t3 t7 t8 t9 t10 t11 t12 t13 t14 t15 t16 t17 t18 t19 t20 t21 t24 t25 t26 t27 t28 t29 t30 t31 t32 t33 t34 t35 t36 t37 t38 Ds wr h1 h3 h4
    exact ⟨m - 1, by omega, fun k => (#[t0, undef, t2, t3, undef, undef, undef, t7, t8, t9, t10, t11, t12, t13, t14, t15, t16, t17, t18, t19, t20, t21, undef, undef, t24, t25, t26, t27, t28, t29, t30, t31, t32, t33, t34, t35, t36, t37, t38] : Array Value).getD k undef, c + 1, Ds, rfl, by omega, h3, h4⟩
  · intro t0 t2 t3 t7 t8 t9 t10 t11 t12 t13 t14 t15 t16 t17 t18 t19 t20 t21 t24 t25 t26 t27 t28 t29 t30 t31 t32 t33 t34 t35 t36 t37 t38 Ds w' Ar cr ns h1 h2 h3 h4 h5 h6
    exact hret _ _ _ _ _ _ _ _ _ _ _ _ _ _ _ _ _ _ _ _ _ _ _ _ _ _ _ _ _ _ _ _ _ c Ds w' Ar cr ns (by omega) h2 h3 h4 h5 h6
end Go.Proofs.YtlnkgjkjdllckaaGreatDoor

namespace Go.Proofs.YtlnkgjkjdllckaaGreatDoor
open Go.RowKit Go.Shelf

set_option maxRecDepth 100000 in
set_option maxHeartbeats 8000000 in
theorem leastPlan_any (j : Jo) (l : List (ByteArray × Su)) (P : Nat → List GP) (A : Option Addr) (c B : Nat) (A' : Option Addr) (c' : Nat) (w : World) (hj : JoOk j A c B w) (hl : SuOk l A' c' B w) (hE : Ends w) (h0 : (jointE j).2 = 0) (h1 : setupsE l = 0) (hP : ∀ i, i < j.fs.length → (P i).map Subtype.val = partsV j i l ∧ (P i).length = l.length)
    (HG : Hid (GoodP j.fs.length l.length P)) {idx : List Nat} (HI : Hid (idx ∈ subs l.length 0 idx.length ∧ ∀ i, i < j.fs.length → Cov (P i) idx)) (hiN : idx.length ≤ l.length) :
    Calls Tryz.prog 10 #[.agg (joC j A c), .slice A' l.length c'] w fun e w' => ∃ (Ar : Option Addr) (cr : Nat) (ns : List Nat), e = .returned (.tuple #[.slice Ar ns.length cr, .int .i64 0]) ∧ ns.length ≤ idx.length ∧ (∀ i, i < j.fs.length → Cov (P i) ns) ∧ Below w.heap.size w w' := by
  have hlen := (jointE_zero h0).2.2.2.2.1
  have hll := (setupsE_zero h1).1
  have HO := Lib.hid (fun W (h : Below w.heap.size w W) => openPlan_ok j l P A c B A' c' W (JoOk.below hj h hj.base) (SuOk.below hl h hl.base) (hE.below h) h0 h1 hP)
  have HE : Hid (∀ W, Below w.heap.size w W → Ends W) := Lib.hid fun W h => hE.below h
  clear hj hl hE hP h0 h1
  have b := ((Blk.new w 24 (joC j A c)).alloc (.cells #[.slice none 0 0] 43)).alloc (.cells #[.int .i64 0] 38)
  have b4 := (Blk.new' (w.alloc (.cells (joC j A c) 24)) 43 #[.slice none 0 0] (g := w.heap.size + 1) (by simp)).alloc (.cells #[.int .i64 0] 38)
  have b5 := Blk.new' ((w.alloc (.cells (joC j A c) 24)).alloc (.cells #[.slice none 0 0] 43)) 38 #[.int .i64 0] (g := w.heap.size + 1 + 1) (by simp)
  have hBB : Below w.heap.size w (((w.alloc (.cells (joC j A c) 24)).alloc (.cells #[.slice none 0 0] 43)).alloc (.cells #[.int .i64 0] 38)) := (((Below.refl _ _).alloc (Nat.le_refl _) _).alloc (by simp) _).alloc (by simp; omega) _
  unfold joC at *
  obtain ⟨d0, d1, d2, d3⟩ := jo_cells b
  have lb := b.lt
  refine callsIn_wide.1 (callsIn_of_wp_marks (F := Fence.wide) (n := 5) Tryz.func10 rfl trivial (wpIn_wide.2 ?_) rfl)
  simp only [Tryz.ntmps10, List.size_toArray, List.length_cons, List.length_nil, Nat.reduceAdd, Nat.reduceSub, Array.replicate_succ, Array.replicate_zero, List.push_toArray, List.append_toArray, List.nil_append, List.cons_append]
  go_wp2_with fail
  refine (HO.out _ hBB).mono ?_
  rintro e w4 ⟨v, rfl, M, hB4⟩
  obtain ⟨Af, cf, hv, hcf⟩ : ∃ Af cf, v = .slice Af j.fs.length cf ∧ j.fs.length ≤ cf := by obtain ⟨vs, hown, _⟩ := M.row; obtain ⟨A2, c2, h1, h2, _⟩ := own_shape hown; exact ⟨A2, c2, h1, h2⟩
  subst hv
  have hB5 := hBB.trans (hB4.mono (Below.size hBB))
  replace b4 := b4.gr hB4
  replace b5 := b5.gr hB4
  generalize (((w.alloc (.cells #[.string j.nm, .int .i64 j.thick, .int .i64 j.zone, .slice A j.fs.length c] 24)).alloc (.cells #[.slice none 0 0] 43)).alloc (.cells #[.int .i64 0] 38)).heap.size = base at M
  have hal : Gr w4 (w4.alloc (.cells #[.slice Af j.fs.length cf] 73)) := (Below.refl _ _).alloc (Nat.le_refl _) _
  have b6 := Blk.new w4 73 #[.slice Af j.fs.length cf]
  have hB6 := hB5.trans (Below.mono hal (Below.size hB5))
  have HL : Hid (LeM (w4.alloc (.cells #[.slice Af j.fs.length cf] 73)) (w.heap.size + 1) (w.heap.size + 1 + 1) w4.heap.size w.heap.size base j.fs.length l.length Af cf P) := Lib.hid
    ⟨b4.gr hal, b5.gr hal, b6, M.gr hal, HE.out _ hB6, by omega, by omega, Below.size hB6⟩
  have HB6 := Lib.hid hB6
  clear b4 b5 b6 M hal hB4 hBB hB5 hB6 b d0 d1 d2 d3 lb HO
  go_wp2_with fail
  have hlp := lpLoop (c1 := c') (A1 := A') HL.out (by omega) (by omega) HG HI hiN
  unfold bodyOf at hlp
  conv at hlp in (Option.getD _ Code.skip) => whnf
  refine hlp _ (Gr.refl _) _ ?_
  clear hlp
  intro _ _ _ _ _ _ _ _ _ _ _ _ _ _ _ _ _ _ _ _ _ _ _ _ _ _ _ _ _ _ _ _ _ c2 Ds w7 Ar cr ns hns hcv hB7 k4 k5 hmk
  refine ret_marks hmk fun w' hs => ⟨.tuple #[.slice Ar ns.length cr, .int .i64 0], ?_, Ar, cr, ns, rfl, hns, hcv, ?_⟩
  · have u4 := (hs.blk k4).cell 0
    have u5 := (hs.blk k5).cell 0
    simp [results, Tryz.results10, go_sem, u4, u5]
  · exact HB6.out.trans (hB7.trans hs.below)
end Go.Proofs.YtlnkgjkjdllckaaGreatDoor
