/- A range over an iterator that lays memory of its own and hands it to the rounds (a list that it builds): the iterator says what it yields; the body keeps all cells that lay there. Plain law: the lists of so many of the first numbers, lexicographically. Contract of cover.chosen's iterator: it yields all lists of so many of the first numbers, lexicographically, each in a slice of its own memory. Contract of cover.chosen's inner function. Contracts: cover.chosen, and its iterator as a range's law wants it. -/
import Derived.RangeFuncBox
import Derived.RangeFuncLeaves
import Derived.RangeFuncNested
import Derived.Test.YtlnkgjkjdllckaaGreatDoorProg
import Derived.Shelf.Abstract
import Derived.WalkKit
import Derived.OwnWalkIn
import Derived.TacticsInMore
import Derived.LoopNIn
import Derived.LoopIn
import Derived.WalkSmall
import Derived.Maps.AppendAt
import Derived.Test.YtlnkgjkjdllckaaGreatDoorZpCyF
import Derived.Laws.EntriesVeiled
namespace Go.Proofs.YtlnkgjkjdllckaaGreatDoor
open Go.RowKit

variable {F : Fence} {n : Nat} {P : Program}

/-- All blocks of cells lie as they lay. -/
def KeepCells (W W' : World) : Prop := W.heap.size ≤ W'.heap.size ∧ ∀ (k : Nat) (o : Obj), W.heap[k]? = some o → o.isCells = true → W'.heap[k]? = some o
theorem KeepCells.refl (W : World) : KeepCells W W := ⟨Nat.le_refl _, fun _ _ h _ => h⟩
theorem KeepCells.trans {A B C : World} (h : KeepCells A B) (k : KeepCells B C) : KeepCells A C := ⟨Nat.le_trans h.1 k.1, fun i o hi ho => k.2 i o (h.2 i o hi ho) ho⟩
theorem KeepCells.of_below {A B : World} (h : Below A.heap.size A B) : KeepCells A B := ⟨h.size, fun i _ hi _ => (h.block i (Array.getElem?_eq_some_iff.1 hi).1).trans hi⟩
theorem KeepCells.put {A : World} {l : Nat} {o o' : Obj} (h : A.heap[l]? = some o) (ho : o.isCells = false) : KeepCells A (A.putObj l o') := by
  refine ⟨Nat.le_of_eq (World.putObj_size ..).symm, fun i u hi hu => ?_⟩
  by_cases e : i = l
  · subst e; rw [h] at hi; cases hi; rw [ho] at hu; cases hu
  · exact (World.putObj_heap_other e).trans hi

/-- What an iterator gives: all of xs come, in that order, each as a value of which Px holds, or a round says no more; it writes no block that lay there when it was called. -/
def SeqV {β : Type} (F : Fence) (n : Nat) (P : Program) (g : Nat) (lb : Array Value) (Px : β → Value → World → Prop) (xs : List β) (W0 : World) : Prop :=
  ∀ (l : Nat) (J Jx : List β → World → Prop) (W : World), Below W0.heap.size W0 W → (∀ s W1 W2, J s W1 → Below W.heap.size W1 W2 → J s W2) →
    (∀ pre x v W1, pre ++ [x] <+: xs → J pre W1 → W.heap.size ≤ W1.heap.size → Px x v W1 → YieldAt F (n - 1) P l #[v] W1 fun e W' =>
      (e = .returned (.bool true) ∧ J (pre ++ [x]) W' ∧ KeepCells W1 W') ∨ (e = .returned (.bool false) ∧ Jx (pre ++ [x]) W')) →
    J [] W → CallsIn F n P g (#[.func (.yield l) #[] #[]] ++ lb) W fun e W' => (∃ v, e = .returned v) ∧ (J xs W' ∨ ∃ pre, pre <+: xs ∧ Jx pre W')

/-- How a round's body may be left. -/
def vPost {β : Type} (B : Nat) (I : List β → World → Prop) (Ix : List β → World → Prop) (xs : List β) (W : World) : Exit → Act → World → Prop
  | .normal, _, W' => Below W.heap.size W W' ∧ I xs W'
  | .ret, _, W' => KeepsFrom B W W' ∧ Ix xs W'
  | _, _, _ => False

/-- The loop's record and the block for the rounds' deferred calls. -/
def RecsV (D : Nat) (rc : Loop) (W : World) : Prop := W.heap[D + 1]? = some (.loop rc) ∧ W.heap[D]? = some (.deferred (some []))
theorem RecsV.put {D : Nat} {rc rc' : Loop} {W : World} (h : RecsV D rc W) : RecsV D rc' (W.putObj (D + 1) (.loop rc')) :=
  ⟨World.putObj_heap_same (Array.getElem?_eq_some_iff.1 h.1).1, (World.putObj_heap_other (by omega)).trans h.2⟩
theorem RecsV.kept {D : Nat} {rc : Loop} {W W' : World} (h : RecsV D rc W) (hk : KeepsFrom D W W') : RecsV D rc W' :=
  ⟨hk.same _ _ (by omega) h.1 rfl, hk.same _ _ (Nat.le_refl _) h.2 rfl⟩
theorem RecsV.below {D n : Nat} {rc : Loop} {W W' : World} (h : RecsV D rc W) (hn : D + 1 < n) (hg : Below n W W') : RecsV D rc W' :=
  ⟨(hg.block _ (by omega)).trans h.1, (hg.block _ (by omega)).trans h.2⟩

/-- The cells of a world in which a loop's record has turned. -/
theorem cell_putLoop {W : World} {l : Nat} {r r' : Loop} (h : W.heap[l]? = some (.loop r)) (p : Addr) : (W.putObj l (.loop r')).cell? p = W.cell? p := by
  by_cases e : p.block = l
  · have h1 : (W.putObj l (.loop r')).heap[p.block]? = some (.loop r') := by rw [e]; exact World.putObj_heap_same (Array.getElem?_eq_some_iff.1 h).1
    have h2 : W.heap[p.block]? = some (.loop r) := by rw [e]; exact h
    simp [World.cell?, h1, h2]
  · exact World.cell?_of_block (World.putObj_heap_other e)

set_option maxHeartbeats 1000000 in
theorem wpIn_rangeFunc_V {β : Type} {g : Operand} {ps : Array Tmp} {assign body : Code} {Q : Exit → Act → World → Prop} {a : Act} {w : World} (hro : F.round = none) (h1 : 1 ≤ n) {gf : Nat} {lb : Array Value}
    (hg : a.eval g = .func (.func gf) #[] lb) (hFg : F.fn gf) (eg : ∀ args w, (callFunc gf args).run P w = .ok (.enter gf args) w) {Px : β → Value → World → Prop} {xs : List β}
    (hseq : SeqV F (n - 1) P gf lb Px xs w) (hps : ps.size = 1) (I : List β → World → Prop) (Ix : List β → World → Prop)
    (hI : OwnFrom w.heap.size I) (hIx : OwnFrom w.heap.size Ix) (hIb : ∀ s W W', I s W → Below w.heap.size W W' → I s W') (h0 : I [] w)
    (Bd : Value → Act → World → World → Prop)
    (hassign : ∀ (l : Nat) (pre : List β) (x : β) (v : Value) (W : World) (K : Act → World → Prop), I pre W → Px x v W → (∀ a' W', Below W.heap.size W W' → Bd v a' W W' → K a' W') →
      assign.wpIn (F.inRound l) (n - 1 - 1) P (Exit.then K (fun _ _ _ => False)) { tmps := (ps.zip #[v]).foldl (fun t (p, v) => t.setIfInBounds p v) a.tmps, defers := [] } W)
    (hbody : ∀ (l : Nat) (pre : List β) (x : β) (v : Value) (a' : Act) (W Wa : World) (r r' : Loop), w.heap.size ≤ l → pre ++ [x] <+: xs → I pre W → Px x v W → Below W.heap.size W Wa → Bd v a' W Wa → Wa.heap[l]? = some (.loop r) → I pre (Wa.putObj l (.loop r')) →
      body.wpIn (F.inRound l) (n - 1 - 1) P (vPost w.heap.size I Ix (pre ++ [x]) (Wa.putObj l (.loop r'))) a' (Wa.putObj l (.loop r')))
    (hdone : ∀ (D : Nat) (W : World), w.heap.size ≤ D → I xs W → W.heap[D]? = some (.deferred (some [])) → Q .normal { a with defers := { target := .collected D, args := #[] } :: a.defers } W)
    (hstop : ∀ (D : Nat) (pre : List β) (W : World), w.heap.size ≤ D → pre <+: xs → Ix pre W → W.heap[D]? = some (.deferred (some [])) → Code.ret.wpIn F n P Q { a with defers := { target := .collected D, args := #[] } :: a.defers } W) :
    (Code.rangeFunc g ps assign body).wpIn F n P Q a w := by
  refine wpIn_rangeFunc fun fn hfn => ?_
  rw [hro]
  let rc : LoopState → Option Code → Loop := fun st pe => { state := st, pending := pe, fn, tmps := a.tmps, params := ps, assign, body, defers := w.heap.size }
  have e1 := run_enterLoop_outer (P := P) (w := w) fn a.tmps ps assign body
  have hR0 : RecsV w.heap.size (rc .ready none) ((w.alloc (.deferred (some []))).alloc (.loop (rc .ready none))) := by
    refine ⟨?_, (Below.heap_alloc _ _ _ (by simp)).trans (World.alloc_heap_new w _)⟩
    have := World.alloc_heap_new (w.alloc (.deferred (some []))) (.loop (rc .ready none))
    rwa [World.size_alloc] at this
  have hI0 : I [] ((w.alloc (.deferred (some []))).alloc (.loop (rc .ready none))) := hI.alloc _ (hI.alloc _ h0)
  have hB0 : Below w.heap.size w ((w.alloc (.deferred (some []))).alloc (.loop (rc .ready none))) := ((Below.refl _ _).alloc (Nat.le_refl _) _).alloc (by simp) _
  have hS0 : ((w.alloc (.deferred (some []))).alloc (.loop (rc .ready none))).heap.size = w.heap.size + 2 := by simp
  have e1' : (Instr.enterLoop fn a.tmps ps assign body none).run P w = .ok (w.heap.size + 1, [{ target := .collected w.heap.size, args := #[] }]) ((w.alloc (.deferred (some []))).alloc (.loop (rc .ready none))) := e1
  generalize (w.alloc (.deferred (some []))).alloc (.loop (rc .ready none)) = W1 at e1' hR0 hI0 hB0 hS0
  clear e1
  refine ⟨_, _, W1, { target := .fn (.func gf) lb, args := #[.func (.yield (w.heap.size + 1)) #[] #[]] }, W1, gf, #[.func (.yield (w.heap.size + 1)) #[] #[]] ++ lb, W1, e1', ?_, ?_, ?_, fun _ => h1, ?_⟩
  · simp only [resolve, hg]
    simp [go_sem]
  · intro f' hf'
    simp [Target.leads] at hf'
    subst hf'
    exact hFg
  · simp [invoke, go_sem, eg]
  · refine (hseq (w.heap.size + 1) (fun pre W => I pre W ∧ RecsV w.heap.size (rc .ready none) W) (fun pre W => Ix pre W ∧ RecsV w.heap.size (rc .done (some .ret)) W) _ hB0
      (fun s W W' h hg => ⟨hIb s W W' h.1 (Below.mono hg (by omega)), h.2.below (by omega) hg⟩) ?_ ⟨hI0, hR0⟩).mono ?_
    · rintro pre x v W hpx ⟨hi, hr⟩ hWs hPx
      refine ⟨fn, _, assign, body, run_yield (P := P) hr.1 (by simp [rc, hps]), roundIn_of_wpIn hfn (hassign _ pre x v W _ hi hPx fun a' Wa hga hbd => ⟨_, run_beginRound (hr.below (by omega) hga).1 rfl, ?_⟩)⟩
      have hra : RecsV w.heap.size (rc .ready none) Wa := hr.below (by omega) hga
      have hr2 : RecsV w.heap.size (rc .busy none) (Wa.putObj (w.heap.size + 1) (.loop (rc .busy none))) := hra.put
      have hia : I pre Wa := hIb _ _ _ hi (Below.mono hga (by omega))
      have hib : I pre (Wa.putObj (w.heap.size + 1) (.loop (rc .busy none))) := hI.putObj _ hia (by omega) hra.1 rfl
      have hsz2 : (Wa.putObj (w.heap.size + 1) (.loop (rc .busy none))).heap.size = Wa.heap.size := World.putObj_size ..
      have hga2 := hga.size
      refine wpIn_mono (hbody _ pre x v a' W Wa _ _ (by omega) hpx hi hPx hga hbd hra.1 hib) ?_
      rintro e a3 W3 hp
      have fin : ∀ (jump : Option Code), KeepsFrom w.heap.size (Wa.putObj (w.heap.size + 1) (.loop (rc .busy none))) W3 → (Instr.endRound (w.heap.size + 1) jump).run P W3 = .ok (.bool jump.isNone) (W3.putObj (w.heap.size + 1) (.loop (rc (if jump.isNone then .ready else .done) jump))) ∧ RecsV w.heap.size (rc .busy none) W3 ∧ RecsV w.heap.size (rc (if jump.isNone then .ready else .done) jump) (W3.putObj (w.heap.size + 1) (.loop (rc (if jump.isNone then .ready else .done) jump))) := fun jump hk =>
        ⟨run_endRound (P := P) jump (hr2.kept hk).1, hr2.kept hk, (hr2.kept hk).put⟩
      cases e with
      | normal =>
        obtain ⟨hb, hi3⟩ := hp
        have hk : KeepsFrom w.heap.size (Wa.putObj (w.heap.size + 1) (.loop (rc .busy none))) W3 := ⟨hb.size, fun k o _ h0 _ => (hb.block k (Array.getElem?_eq_some_iff.1 h0).1).trans h0⟩
        obtain ⟨f1, f2, f3⟩ := fin none hk
        refine ⟨_, _, f1, .inl ⟨rfl, ⟨hI.putObj _ hi3 (by omega) f2.1 rfl, f3⟩, ?_⟩⟩
        exact (KeepCells.of_below hga).trans ((KeepCells.put hra.1 rfl).trans ((KeepCells.of_below hb).trans (KeepCells.put f2.1 rfl)))
      | ret =>
        obtain ⟨hk, hi3⟩ := hp
        obtain ⟨f1, f2, f3⟩ := fin (some .ret) hk
        exact ⟨_, _, f1, .inr ⟨rfl, hIx.putObj _ hi3 (by omega) f2.1 rfl, f3⟩⟩
      | exit id => exact hp.elim
      | goto t => exact hp.elim
      | panic ch => exact hp.elim
      | outgrown => exact hp.elim
    · rintro e W2 ⟨⟨v, rfl⟩, (⟨hi, hr⟩ | ⟨pre, hpre, hi, hr⟩)⟩
      · exact ⟨none, _, run_endLoop (P := P) hr.1 (by simp [rc]), hdone _ _ (Nat.le_refl _) (hI.putObj _ hi (by omega) hr.1 rfl) ((World.putObj_heap_other (by omega)).trans hr.2)⟩
      · exact ⟨some .ret, _, run_endLoop (P := P) hr.1 (by simp [rc]), hstop _ pre _ (Nat.le_refl _) hpre (hIx.putObj _ hi (by omega) hr.1 rfl) ((World.putObj_heap_other (by omega)).trans hr.2)⟩
end Go.Proofs.YtlnkgjkjdllckaaGreatDoor

namespace Go.Proofs.YtlnkgjkjdllckaaGreatDoor

/-- The strictly rising lists of c numbers out of f .. f + d - 1, lexicographically. -/
def subs : Nat → Nat → Nat → List (List Nat)
  | _, _, 0 => [[]]
  | 0, _, _ + 1 => []
  | d + 1, f, c + 1 => (subs d (f + 1) c).map (f :: ·) ++ subs d (f + 1) (c + 1)
theorem subs_zero (d f : Nat) : subs d f 0 = [[]] := by cases d <;> rfl
theorem subs_none (f c : Nat) : subs 0 f (c + 1) = [] := rfl
theorem subs_succ (d f c : Nat) : subs (d + 1) f (c + 1) = (subs d (f + 1) c).map (f :: ·) ++ subs d (f + 1) (c + 1) := rfl
theorem subs_map (l0 : List Nat) (d f c : Nat) : (subs (d + 1) f (c + 1)).map (l0 ++ ·) = (subs d (f + 1) c).map ((l0 ++ [f]) ++ ·) ++ (subs d (f + 1) (c + 1)).map (l0 ++ ·) := by
  rw [subs_succ, List.map_append, List.map_map]
  congr 1
  apply List.map_congr_left
  intro x _
  simp
theorem subs_mem : ∀ (d f c : Nat) (s : List Nat), s ∈ subs d f c ↔ s.length = c ∧ s.Pairwise (· < ·) ∧ ∀ x ∈ s, f ≤ x ∧ x < f + d
  | d, f, 0, s => by
    rw [subs_zero, List.mem_singleton]
    constructor
    · rintro rfl; simp
    · rintro ⟨h, _⟩; exact List.eq_nil_of_length_eq_zero h
  | 0, f, c + 1, s => by
    rw [subs_none]
    constructor
    · intro h; cases h
    · rintro ⟨h, _, h2⟩
      cases s with
      | nil => simp at h
      | cons a s => have := h2 a (by simp); omega
  | d + 1, f, c + 1, s => by
    rw [subs_succ, List.mem_append, List.mem_map]
    constructor
    · rintro (⟨t, ht, rfl⟩ | h)
      · obtain ⟨h1, h2, h3⟩ := (subs_mem d (f + 1) c t).1 ht
        refine ⟨by simp [h1], List.pairwise_cons.2 ⟨fun x hx => by have := h3 x hx; omega, h2⟩, fun x hx => ?_⟩
        rcases List.mem_cons.1 hx with rfl | hx
        · omega
        · have := h3 x hx; omega
      · obtain ⟨h1, h2, h3⟩ := (subs_mem d (f + 1) (c + 1) s).1 h
        exact ⟨h1, h2, fun x hx => by have := h3 x hx; omega⟩
    · rintro ⟨h1, h2, h3⟩
      cases s with
      | nil => simp at h1
      | cons a s =>
        rw [List.pairwise_cons] at h2
        have ha := h3 a (by simp)
        by_cases e : a = f
        · subst e
          refine .inl ⟨s, (subs_mem d (a + 1) c s).2 ⟨by simpa using h1, h2.2, fun x hx => ?_⟩, rfl⟩
          have := h2.1 x hx
          have := h3 x (by simp [hx])
          omega
        · refine .inr ((subs_mem d (f + 1) (c + 1) (a :: s)).2 ⟨h1, List.pairwise_cons.2 h2, fun x hx => ?_⟩)
          rcases List.mem_cons.1 hx with rfl | hx
          · omega
          · have := h2.1 x hx
            have := h3 x (by simp [hx])
            omega
end Go.Proofs.YtlnkgjkjdllckaaGreatDoor

namespace Go.Proofs.YtlnkgjkjdllckaaGreatDoor
open Go.RowKit Go.Lib

attribute [local go_sem] Oper.semAt_some

theorem roundIn_any {n : Nat} (m : Nat) {P : Program} {l f : Nat} {tmps : Array Value} {assign body : Code} {w : World} {R : Ending → World → Prop} (h : RoundIn Fence.wide n P l f tmps assign body w R) : RoundIn Fence.wide m P l f tmps assign body w R := ⟨h.1, fun c cs _ => h.2 c cs (room_wide _)⟩
theorem yieldAt_any {n : Nat} (m : Nat) {P : Program} {l : Nat} {args : Array Value} {W : World} {R : Ending → World → Prop} (h : YieldAt Fence.wide n P l args W R) : YieldAt Fence.wide m P l args W R := by
  obtain ⟨fn, tmps, assign, body, hy, hR⟩ := h
  exact ⟨fn, tmps, assign, body, hy, roundIn_any m hR⟩
theorem boxed_keep {W W' : World} {B : Nat} {t : TypeId} {v : Value} (h : Boxed W B t v) (k : KeepCells W W') : Boxed W' B t v := k.2 _ _ h rfl
theorem own_keep {W W' : World} {base e size n : Nat} {v : Value} {xs : List Value} (h : W.ownsRow base e size v n xs) (k : KeepCells W W') : W'.ownsRow base e size v n xs := by
  refine ⟨h.1, ?_⟩
  rcases h.2 with h | ⟨g, cap, cur, h1, h2, h3, h4⟩
  · exact .inl h
  · exact .inr ⟨g, cap, cur, h1, h2, k.2 _ _ h3 rfl, h4⟩

/-- What a round is given: a slice of these numbers. -/
def PxL (x : List Nat) (v : Value) (W : World) : Prop := ∃ A c, v = .slice A x.length c ∧ x.length ≤ c ∧ c ≤ 9223372036854775807 ∧ (∀ a, A = some a → ∃ g, a = ⟨g, 0, none⟩) ∧ Row W W.heap.size 1 A x.length (natsC x)
theorem natsC_snoc (l : List Nat) (n : Nat) : natsC (l ++ [n]) = natsC l ++ [.int .i64 (n : Int)] := by simp [natsC]
theorem natsC_length (l : List Nat) : (natsC l).length = l.length := by simp [natsC]

abbrev moreV (Bl Bc By Bn Bm : Nat) : Value := .func (.func 50) #[] #[.pointer (some ⟨Bl, 0, none⟩), .pointer (some ⟨Bc, 0, none⟩), .pointer (some ⟨By, 0, none⟩), .pointer (some ⟨Bn, 0, none⟩), .pointer (some ⟨Bm, 0, none⟩)]
/-- The iterator's memory: the list so far, the count, the yield, the bound, itself. -/
structure ChM (S Bl Bc By Bn Bm l count N : Nat) (l0 : List Nat) (vl : Value) (W : World) : Prop where
  bl : Boxed W Bl 43 vl
  row : W.ownsRow S 3 1 vl l0.length (natsC l0)
  bc : Boxed W Bc 3 (.int .i64 (count : Int))
  byy : Boxed W By 111 (.func (.yield l) #[] #[])
  bn : Boxed W Bn 3 (.int .i64 (N : Int))
  bm : Boxed W Bm 112 (moreV Bl Bc By Bn Bm)
  size : S ≤ W.heap.size
  low : S ≤ Bl
  lc : Bc < S
  ln : Bn < S
section
variable {S Bl Bc By Bn Bm l count N : Nat} {l0 : List Nat} {vl : Value} {W W' : World}
theorem ChM.keep (h : ChM S Bl Bc By Bn Bm l count N l0 vl W) (k : KeepCells W W') : ChM S Bl Bc By Bn Bm l count N l0 vl W' :=
  ⟨boxed_keep h.bl k, own_keep h.row k, boxed_keep h.bc k, boxed_keep h.byy k, boxed_keep h.bn k, boxed_keep h.bm k, Nat.le_trans h.size k.1, h.low, h.lc, h.ln⟩
theorem boxed_ne {B B' t t' : Nat} {u v : Value} (h : Boxed W B t v) (h' : Boxed W B' t' u) (hne : t ≠ t') : B ≠ B' := by
  intro e; subst e
  have := (show W.heap[B]? = _ from h).symm.trans h'
  simp at this
  exact hne this.2
/-- Behind 'l = append(l, n)'. -/
theorem ChM.push {n : Nat} {v' : Value} {w1 : World} (h : ChM S Bl Bc By Bn Bm l count N l0 vl W) (hown : w1.ownsRow S 3 1 v' (l0.length + 1) (natsC l0 ++ [.int .i64 (n : Int)])) (hgrow : (W.alloc (.cells #[.int .i64 (n : Int)] 3)).grownBy w1 vl.ownBlock) :
    ChM S Bl Bc By Bn Bm l count N (l0 ++ [n]) v' (w1.setCell ⟨Bl, 0, none⟩ v') ∧ Below S W (w1.setCell ⟨Bl, 0, none⟩ v') ∧ Boxed w1 Bl 43 vl := by
  obtain ⟨a1, a2, a3, _, a5⟩ := Boxed.appended h.bl (by decide) h.row h.size h.low hown hgrow
  have hlow : ∀ {B : Nat} {t : TypeId} {u : Value}, B < S → Boxed W B t u → Boxed (w1.setCell ⟨Bl, 0, none⟩ v') B t u := fun hB hb => (a5.block _ hB).trans hb
  have hfn : ∀ {B : Nat} {t : TypeId} {u : Value}, t ≠ 3 → t ≠ 43 → Boxed W B t u → Boxed (w1.setCell ⟨Bl, 0, none⟩ v') B t u := fun h1 h2 hb =>
    Boxed.other ((hb.alloc _).kept hgrow (hb.not_row h1 h.row)) (boxed_ne hb h.bl h2) _
  refine ⟨⟨a2, by rw [natsC_snoc, List.length_append]; exact a3, hlow h.lc h.bc, hfn (by decide) (by decide) h.byy, hlow h.ln h.bn, hfn (by decide) (by decide) h.bm, Nat.le_trans h.size a5.size, h.low, h.lc, h.ln⟩, a5, a1⟩
/-- Behind 'l = l[:len(l)-1]'. -/
theorem ChM.pop {n g cap : Nat} (h : ChM S Bl Bc By Bn Bm l count N (l0 ++ [n]) (.slice (some ⟨g, 0, none⟩) (l0.length + 1) cap) W) :
    ChM S Bl Bc By Bn Bm l count N l0 (.slice (some ⟨g, 0, none⟩) l0.length cap) (W.setCell ⟨Bl, 0, none⟩ (.slice (some ⟨g, 0, none⟩) l0.length cap)) ∧ Below S W (W.setCell ⟨Bl, 0, none⟩ (.slice (some ⟨g, 0, none⟩) l0.length cap)) := by
  have hB : Below S W (W.setCell ⟨Bl, 0, none⟩ (.slice (some ⟨g, 0, none⟩) l0.length cap)) := (Below.refl S W).setCell (p := ⟨Bl, 0, none⟩) h.low _
  have hr := h.row
  rw [natsC_snoc, List.length_append] at hr
  have hr2 := ownsRow_pop (last := [.int .i64 (n : Int)]) (by rw [natsC_length, Nat.mul_one]) hr
  have hlow : ∀ {B : Nat} {t : TypeId} {u : Value}, B < S → Boxed W B t u → Boxed (W.setCell ⟨Bl, 0, none⟩ (.slice (some ⟨g, 0, none⟩) l0.length cap)) B t u := fun hB' hb => (hB.block _ hB').trans hb
  refine ⟨⟨h.bl.set _, hr2.kept (grownBy_setCell' W Bl _) (.inr ?_), hlow h.lc h.bc, h.byy.other (boxed_ne h.byy h.bl (by decide)) _, hlow h.ln h.bn, h.bm.other (boxed_ne h.bm h.bl (by decide)) _, Nat.le_trans h.size hB.size, h.low, h.lc, h.ln⟩, hB⟩
  have := h.bl.not_row (by decide) h.row
  intro e
  exact this e.symm
/-- What is yielded. -/
theorem ChM.px (h : ChM S Bl Bc By Bn Bm l count N l0 vl W) : PxL l0 vl W := by
  obtain ⟨A, c, rfl, hR⟩ := Row.own h.row
  have := own_caps h.row
  refine ⟨A, c, rfl, this.2.1, this.1, fun a e => ?_, hR⟩
  rcases h.row.2 with ⟨h1, _⟩ | ⟨g, cap, cur, h1, _⟩
  · simp at h1; rw [h1.1] at e; cases e
  · simp at h1; rw [h1.1] at e; cases e; exact ⟨g, rfl⟩
end
end Go.Proofs.YtlnkgjkjdllckaaGreatDoor

namespace Go.Proofs.YtlnkgjkjdllckaaGreatDoor
open Go.RowKit Go.Lib

attribute [local go_sem] Oper.semAt_some

set_option maxRecDepth 100000 in
set_option maxHeartbeats 4000000 in
theorem more_in {S Bl Bc By Bn Bm l count N : Nat} {xs : List (List Nat)} {J Jx : List (List Nat) → World → Prop} (hcn : count ≤ 100) (hN : N ≤ 100)
    (HY : Hid (∀ (m : Nat) pre x v W1, pre ++ [x] <+: xs → J pre W1 → S ≤ W1.heap.size → PxL x v W1 → YieldAt Fence.wide m Tryz.prog l #[v] W1 fun e W' =>
      (e = .returned (.bool true) ∧ J (pre ++ [x]) W' ∧ KeepCells W1 W') ∨ (e = .returned (.bool false) ∧ Jx (pre ++ [x]) W')))
    (HJ : Hid (∀ s X Y, J s X → Below S X Y → J s Y)) :
    ∀ (d c f : Nat) (l0 : List Nat) (vl : Value) (pre : List (List Nat)) (W : World) (n : Nat), f + d = N → l0.length + c = count → pre ++ (subs d f c).map (l0 ++ ·) <+: xs → J pre W → ChM S Bl Bc By Bn Bm l count N l0 vl W →
      CallsIn Fence.wide n Tryz.prog 50 #[.int .i64 (f : Int), .pointer (some ⟨Bl, 0, none⟩), .pointer (some ⟨Bc, 0, none⟩), .pointer (some ⟨By, 0, none⟩), .pointer (some ⟨Bn, 0, none⟩), .pointer (some ⟨Bm, 0, none⟩)] W fun e W' =>
        (e = .returned (.bool true) ∧ J (pre ++ (subs d f c).map (l0 ++ ·)) W' ∧ ∃ vl', ChM S Bl Bc By Bn Bm l count N l0 vl' W') ∨ (e = .returned (.bool false) ∧ ∃ pre', pre' <+: xs ∧ Jx pre' W') := by
  intro d
  induction d using Nat.strongRecOn with
  | ind d ih =>
  intro c f l0 vl pre W n hfd hlc hpx hj M
  obtain ⟨i0, hi, hz0, hz1, hz2⟩ := info_parts infoInt
  have IH := Lib.hid ih
  have HPX := Lib.hid hpx
  clear ih hpx
  obtain ⟨A, cv, rfl, hcv, hcm, hAn, hRow⟩ := M.px
  have HJ0 := Lib.hid hj
  have HM := Lib.hid M
  have b0 : W.cell? ⟨Bl, 0, none⟩ = some (.slice A l0.length cv) := M.bl.cell
  have b1 : W.cell? ⟨Bc, 0, none⟩ = some (.int .i64 (count : Int)) := M.bc.cell
  have b2 : W.cell? ⟨By, 0, none⟩ = some (.func (.yield l) #[] #[]) := M.byy.cell
  have b3 : W.cell? ⟨Bn, 0, none⟩ = some (.int .i64 (N : Int)) := M.bn.cell
  have b4 : W.cell? ⟨Bm, 0, none⟩ = some (moreV Bl Bc By Bn Bm) := M.bm.cell
  clear hj M hRow
  refine callsIn_of_wp Tryz.func50 rfl trivial ?_ rfl
  simp only [Tryz.ntmps50, List.size_toArray, List.length_cons, List.length_nil, Nat.reduceAdd, Nat.reduceSub, Array.replicate_succ, Array.replicate_zero, List.push_toArray, List.append_toArray, List.nil_append, List.cons_append]
  cases c with
  | zero =>
    obtain rfl : l0.length = count := by omega
    rw [subs_zero] at HPX ⊢
    simp only [List.map_cons, List.map_nil, List.append_nil] at HPX ⊢
    obtain ⟨fn, tmps, assign, body, hy, hR⟩ := HY.out (n - 1) pre l0 _ W HPX.out HJ0.out HM.out.size HM.out.px
    gi_wp2
    refine ⟨(fun h => by cases h), hR.mono ?_⟩
    rintro e W3 (⟨rfl, hJ3, hk3⟩ | ⟨rfl, hJx3⟩)
    · have hM3 := HM.out.keep hk3
      clear hR hy b0 b1 b2 b3 b4 hk3
      gi_wp2
      go_ret
      exact .inl ⟨rfl, hJ3, _, hM3⟩
    · clear hR hy b0 b1 b2 b3 b4
      gi_wp2
      go_ret
      exact .inr ⟨rfl, _, HPX.out, hJx3⟩
  | succ c =>
    have hlen : ¬ l0.length = count := by omega
    have hlen' : ¬ ((l0.length : Int) = (count : Int)) := by omega
    gi_wp2_with fail
    gi_loopw [8] (fun s8 wr => ∃ (k : Nat) (D : List (List Nat)) (vl : Value), s8 = .int .i64 ((f + k : Nat) : Int) ∧ k ≤ d ∧ Hid (D ++ (subs (d - k) (f + k) (c + 1)).map (l0 ++ ·) = (subs d f (c + 1)).map (l0 ++ ·)) ∧ J (pre ++ D) wr ∧ ChM S Bl Bc By Bn Bm l count N l0 vl wr) (fun s8 _ => N - (RowKit.intOf s8).toNat)
    case atStart => exact ⟨0, [], _, by simp, Nat.zero_le _, Lib.hid (by simp), by simpa using HJ0.out, HM.out⟩
    case round =>
      obtain ⟨k, D, vl, rfl, hk, HD, hj, M⟩ := hrel
      clear b0 b1 b2 b3 b4 HM HJ0
      obtain ⟨A, cv, rfl, hcv, hcm, hAn, hRow⟩ := M.px
      have b0 : wr.cell? ⟨Bl, 0, none⟩ = some (.slice A l0.length cv) := M.bl.cell
      have b3 : wr.cell? ⟨Bn, 0, none⟩ = some (.int .i64 (N : Int)) := M.bn.cell
      by_cases hlt : k < d
      · obtain ⟨d', hd'⟩ : ∃ d', d - k = d' + 1 := ⟨d - k - 1, by omega⟩
        have hfk : ((f + k : Nat) : Int) < (N : Int) := by omega
        have HD2 : Hid (D ++ ((subs d' (f + k + 1) c).map ((l0 ++ [f + k]) ++ ·) ++ (subs d' (f + k + 1) (c + 1)).map (l0 ++ ·)) = (subs d f (c + 1)).map (l0 ++ ·)) := Lib.hid (by
          have := HD.out
          rw [hd', subs_map] at this
          exact this)
        have HP2 : Hid ((pre ++ D) ++ (subs d' (f + k + 1) c).map ((l0 ++ [f + k]) ++ ·) <+: xs) := Lib.hid (by
          refine List.IsPrefix.trans ?_ HPX.out
          rw [← HD2.out]
          exact ⟨(subs d' (f + k + 1) (c + 1)).map (l0 ++ ·), by simp only [List.append_assoc]⟩)
        have HM := Lib.hid M
        have HJ1 := Lib.hid hj
        clear HD M hj hRow hAn
        gi_wp2_with (gi_at_builtin; refine wpListIn_append_own _ rfl _ _ 43 rfl S 3 i0 (.int .i64 0) 1 8 Tryz.underlying43 hi hz0 hz1 hz2 rfl (by decide) _ _ _ rfl (HM.out.row.alloc _) ⟨wr.heap.size, 0, none⟩ 1 1 [.int .i64 ((f + k : Nat) : Int)] rfl rfl (cell_one_new _ _ _) (by simp [Value.oneCell']) (by unfold maxLen; omega) (by omega) (by have := HM.out.size; simp; omega) ?_)
        intro v' w1 hown hgrow _
        obtain ⟨M2, hB2, hx1⟩ := HM.out.push hown hgrow
        obtain ⟨g', cap', rfl⟩ := ownsRow_succ hown
        have b0 : w1.cell? ⟨Bl, 0, none⟩ = some (.slice A l0.length cv) := hx1.cell
        have b0f : w1.frozen? ⟨Bl, 0, none⟩ = false := hx1.frozen
        have b4 : (w1.setCell ⟨Bl, 0, none⟩ (.slice (some ⟨g', 0, none⟩) (l0.length + 1) cap')).cell? ⟨Bm, 0, none⟩ = some (moreV Bl Bc By Bn Bm) := M2.bm.cell
        have HM2 := Lib.hid M2
        have HJ2 : Hid (J (pre ++ D) (w1.setCell ⟨Bl, 0, none⟩ (.slice (some ⟨g', 0, none⟩) (l0.length + 1) cap'))) := Lib.hid (HJ.out _ _ _ HJ1.out hB2)
        clear M2 hB2 hown hgrow hx1 b3
        gi_wp2_with fail
        have hcall := IH.out d' (by omega) c (f + k + 1) (l0 ++ [f + k]) (.slice (some ⟨g', 0, none⟩) (l0.length + 1) cap') (pre ++ D) (w1.setCell ⟨Bl, 0, none⟩ (.slice (some ⟨g', 0, none⟩) (l0.length + 1) cap')) (n - 1) (by omega) (by simp; omega) HP2.out HJ2.out HM2.out
        rw [show ((f + k + 1 : Nat) : Int) = (f : Int) + (k : Int) + 1 by omega] at hcall
        refine ⟨trivial, (fun h => by cases h), hcall.mono ?_⟩
        clear hcall b0 b0f b4 HM2 HJ2 HP2 HM HJ1
        rintro e W3 (⟨rfl, hJ3, vl3, M3⟩ | ⟨rfl, pre', hp', hJx⟩)
        · have hown3 := M3.row
          rw [List.length_append] at hown3
          obtain ⟨g3, cap3, rfl⟩ := ownsRow_succ hown3
          have hc3 := own_caps hown3
          obtain ⟨M4, hB4⟩ := M3.pop
          have c0 : W3.cell? ⟨Bl, 0, none⟩ = some (.slice (some ⟨g3, 0, none⟩) (l0.length + 1) cap3) := M3.bl.cell
          have c0f : W3.frozen? ⟨Bl, 0, none⟩ = false := M3.bl.frozen
          have hJ4 : Hid (J (pre ++ D ++ (subs d' (f + k + 1) c).map ((l0 ++ [f + k]) ++ ·)) (W3.setCell ⟨Bl, 0, none⟩ (.slice (some ⟨g3, 0, none⟩) l0.length cap3))) := Lib.hid (HJ.out _ _ _ hJ3 hB4)
          have HM4 := Lib.hid M4
          have k1 : (l0.length : Int) ≤ (cap3 : Int) := by have := hc3.2.1; omega
          clear hown3 hc3 M4 hB4 M3 hJ3
          gi_wp2_with fail
          go_roundw
          case rel =>
            refine ⟨k + 1, D ++ (subs d' (f + k + 1) c).map ((l0 ++ [f + k]) ++ ·), _, (by first | rfl | (congr 1; done) | (congr 1; omega)), by omega, Lib.hid ?_, ?_, HM4.out⟩
            · rw [show d - (k + 1) = d' by omega, List.append_assoc]
              exact HD2.out
            · rw [← List.append_assoc]; exact hJ4.out
          case measure =>
            simp only [RowKit.intOf]; omega
        · gi_wp2_with fail
          go_ret
          exact .inr ⟨rfl, pre', hp', hJx⟩
      · obtain rfl : k = d := by omega
        have hD := HD.out
        rw [Nat.sub_self, subs_none, List.map_nil, List.append_nil] at hD
        rw [hD] at hj
        have hfk : ((f + k : Nat) : Int) = (N : Int) := by omega
        gi_wp2_with fail
        go_ret
        exact .inl ⟨rfl, hj, _, M⟩
end Go.Proofs.YtlnkgjkjdllckaaGreatDoor

namespace Go.Proofs.YtlnkgjkjdllckaaGreatDoor
open Go.RowKit Go.Lib

theorem chosen_any (count N : Nat) (w : World) : Calls Tryz.prog 25 #[.int .i64 (count : Int), .int .i64 (N : Int)] w fun e w' => e = .returned (.func (.func 49) #[] #[.pointer (some ⟨w.heap.size, 0, none⟩), .pointer (some ⟨w.heap.size + 1, 0, none⟩)]) ∧ w' = (w.alloc (.cells #[.int .i64 (count : Int)] 3)).alloc (.cells #[.int .i64 (N : Int)] 3) := by
  go_enter Tryz.func25, Tryz.ntmps25
  go_wp2
  go_ret
  exact ⟨rfl, rfl⟩

section
attribute [local go_sem] Oper.semAt_some
set_option maxRecDepth 100000 in
set_option maxHeartbeats 4000000 in
theorem chosen_seq {Bc Bn count N : Nat} (hcn : count ≤ 100) (hN : N ≤ 100) (w : World) (n : Nat) (hbc : Boxed w Bc 3 (.int .i64 (count : Int))) (hbn : Boxed w Bn 3 (.int .i64 (N : Int))) :
    SeqV Fence.wide n Tryz.prog 49 #[.pointer (some ⟨Bc, 0, none⟩), .pointer (some ⟨Bn, 0, none⟩)] PxL (subs N 0 count) w := by
  intro l J Jx W hW hJ hY h0
  have hbc2 : Boxed W Bc 3 (.int .i64 (count : Int)) := (hW.block _ hbc.lt).trans hbc
  have hbn2 : Boxed W Bn 3 (.int .i64 (N : Int)) := (hW.block _ hbn.lt).trans hbn
  have HY := Lib.hid (fun (m : Nat) pre x v W1 h1 h2 h3 h4 => yieldAt_any m (hY pre x v W1 h1 h2 h3 h4))
  have HJ := Lib.hid hJ
  have H0 := Lib.hid h0
  have HC := Lib.hid (And.intro hbc2 hbn2)
  clear hY hJ h0 hW hbc hbn hbc2 hbn2
  refine callsIn_of_wp Tryz.func49 rfl trivial ?_ rfl
  simp only [Tryz.ntmps49, List.size_toArray, List.length_cons, List.length_nil, Nat.reduceAdd, Nat.reduceSub, Array.replicate_succ, Array.replicate_zero, List.push_toArray, List.append_toArray, List.nil_append, List.cons_append]
  gi_wp2_with fail
  have bY := ((Boxed.new W 111 (.func (.yield l) #[] #[])).alloc (.cells #[.slice none 0 0] 43)).alloc (.cells #[moreV (W.heap.size + 1) Bc W.heap.size Bn (W.heap.size + 1 + 1)] 112)
  have bL := (Boxed.new (W.alloc (.cells #[.func (.yield l) #[] #[]] 111)) 43 (.slice none 0 0)).alloc (.cells #[moreV (W.heap.size + 1) Bc W.heap.size Bn (W.heap.size + 1 + 1)] 112)
  have bM := Boxed.new ((W.alloc (.cells #[.func (.yield l) #[] #[]] 111)).alloc (.cells #[.slice none 0 0] 43)) 112 (moreV (W.heap.size + 1) Bc W.heap.size Bn (W.heap.size + 1 + 1))
  simp only [World.size_alloc] at bL bM
  have hB4 : Below W.heap.size W (((W.alloc (.cells #[.func (.yield l) #[] #[]] 111)).alloc (.cells #[.slice none 0 0] 43)).alloc (.cells #[moreV (W.heap.size + 1) Bc W.heap.size Bn (W.heap.size + 1 + 1)] 112)) := (((Below.refl _ _).alloc (Nat.le_refl _) _).alloc (by simp) _).alloc (by simp; omega) _
  generalize ((W.alloc (.cells #[.func (.yield l) #[] #[]] 111)).alloc (.cells #[.slice none 0 0] 43)).alloc (.cells #[moreV (W.heap.size + 1) Bc W.heap.size Bn (W.heap.size + 1 + 1)] 112) = W4 at *
  have HM : Hid (ChM W.heap.size (W.heap.size + 1) Bc W.heap.size Bn (W.heap.size + 1 + 1) l count N [] (.slice none 0 0) W4) := Lib.hid
    ⟨bL, World.ownsRow_nil _ _ _ _, (hB4.block _ HC.out.1.lt).trans HC.out.1, bY, (hB4.block _ HC.out.2.lt).trans HC.out.2, bM, hB4.size, by omega, HC.out.1.lt, HC.out.2.lt⟩
  have hJ4 := HJ.out _ _ _ H0.out hB4
  have hcall := more_in hcn hN HY HJ N count 0 [] (.slice none 0 0) [] W4 (n - 1) (by omega) (by simp) (by simp) hJ4 HM.out
  refine ⟨trivial, (fun h => by cases h), hcall.mono ?_⟩
  clear hcall bY bL bM hB4 hJ4 HM
  rintro e W5 (⟨rfl, hJ5, _⟩ | ⟨rfl, pre', hp', hJx⟩)
  · gi_wp2_with fail
    go_end0
    refine ⟨⟨_, rfl⟩, .inl ?_⟩
    simpa using hJ5
  · gi_wp2_with fail
    go_end0
    exact ⟨⟨_, rfl⟩, .inr ⟨pre', hp', hJx⟩⟩
end
end Go.Proofs.YtlnkgjkjdllckaaGreatDoor
