/- A region that draws its order, within an iterator (the widest fence): one operation is taken first; the world may grow. Contract: the marks of the second list that are like one of the first list, as an iterator. Contract: whether pairs are right. Contract: flaw.CheckPairs. -/
import Derived.OrdersIn
import Derived.TacticsIn
import Derived.RangeFuncBox
import Derived.RangeFuncLeaves
import Derived.RangeFuncNested
import Derived.Shelf.Abstract
import Derived.WalkKit
import Derived.OwnWalkIn
import Derived.TacticsInMore
import Derived.LoopNIn
import Derived.LoopIn
import Derived.Test.YtidgeagpgllkeaaGreatZdRgW
import Derived.Test.YtidgeagpgllkeaaGreatZdFpB
import Derived.Test.YtidgeagpgllkeaaGreatZdFlA
import Derived.Test.YtidgeagpgllkeaaGreatZdFcP
import Derived.Test.YtidgeagpgllkeaaGreatZdFiB
namespace Go.Proofs.YtidgeagpgllkeaaGreat
open Go Go.RowKit

section
variable {P : Program} {ops : Array Oper} {Q : Exit → Act → World → Prop} {md : Region.Mode} {S : World → Prop} {n b : Nat}

/-- Whatever order is picked from here on, in whatever world that has grown since. -/
def wpWI (b n : Nat) (P : Program) (md : Region.Mode) (ops : Array Oper) (Q : Exit → Act → World → Prop) (S : World → Prop) : Nat → Array Bool → Act → World → Prop
  | 0, listed, a, w => ∀ w', Gr w w' → S w' → Region.ready md ops listed = [] ∧ Q .normal a w'
  | f + 1, listed, a, w => ∀ w', Gr w w' → S w' → (Region.ready md ops listed = [b] ∧ wpAnyIn Fence.wide n P md ops Q (f + 1) listed a w') ∨ ((Region.ready md ops listed = [] → Q .normal a w') ∧
      ∀ i ∈ Region.ready md ops listed, wpOpIn Fence.wide n P ops Q i (fun a' w'' => S w'' ∧ wpWI b n P md ops Q S f (listed.setIfInBounds i true) a' w'') a w')
/-- What is listed has what it waits for. -/
def Closed (md : Region.Mode) (ops : Array Oper) (listed : Array Bool) : Prop := ∀ (x : Nat) (o : Oper), ops[x]? = some o → listed.getD x false = true → ∀ e ∈ o.after, Region.binds md e = true → listed.getD e.on false = true
/-- All of these come ahead of b. -/
def ancB (md : Region.Mode) (ops : Array Oper) (b : Nat) : List Nat → List Nat → Bool
  | _, [] => true
  | seen, i :: r => ((b :: seen).any fun x => Region.waitsFor md ops x i) && ancB md ops b (i :: seen) r

theorem wpWI_up {f : Nat} {listed : Array Bool} {a : Act} {w w1 : World} (h : wpWI b n P md ops Q S f listed a w) (hg : Gr w w1) : wpWI b n P md ops Q S f listed a w1 := by
  cases f with
  | zero => exact fun w' h1 hS => h w' (hg.trans h1) hS
  | succ f => exact fun w' h1 hS => h w' (hg.trans h1) hS

theorem wpAnyIn_of_wpWI : ∀ (f : Nat) (listed : Array Bool) (a : Act) (w : World), wpWI b n P md ops Q S f listed a w → S w → wpAnyIn Fence.wide n P md ops Q f listed a w
  | 0, _, _, w, h, hS => h w (Gr.refl w) hS
  | f + 1, _, _, w, h, hS => (h w (Gr.refl w) hS).elim (fun h => h.2) fun h => ⟨h.1, fun i hi => wpOpIn_mono (fun a' w' hh => wpAnyIn_of_wpWI f _ a' w' hh.2 hh.1) (h.2 i hi)⟩
theorem listed_of_wait {listed : Array Bool} {o : Oper} {j : Nat} (hun : ∀ e ∈ o.after, Region.binds md e = true → listed.getD e.on false = true) (hj : ops[j]? = some o) {i : Nat} (hw : Region.waitsFor md ops j i = true) : listed.getD i false = true := by
  obtain ⟨o', ho', e, he, hbe, hon⟩ := Region.waitsFor_spec hw
  obtain rfl : o' = o := Option.some.inj (ho'.symm.trans hj)
  have := hun e he hbe
  rw [hon] at this
  exact this
theorem Closed.anc {listed : Array Bool} (hC : Closed md ops listed) (hsz : listed.size = ops.size) (hb : b ∈ Region.ready md ops listed) : ∀ (l seen : List Nat), (∀ i ∈ l, i < ops.size) → (∀ x ∈ seen, listed.getD x false = true) → ancB md ops b seen l = true → ∀ i ∈ l, listed.getD i false = true
  | [], _, _, _, _, _, h => by cases h
  | i :: r, seen, hl, hs, h, j, hj => by
    unfold ancB at h
    rw [Bool.and_eq_true] at h
    have hi : listed.getD i false = true := by
      obtain ⟨x, hx, hw⟩ := List.any_eq_true.1 h.1
      rcases List.mem_cons.1 hx with rfl | hx
      · obtain ⟨_, o, ho, hall⟩ := mem_ready.1 hb
        exact listed_of_wait hall ho hw
      · obtain ⟨o, ho, e, he, hbe, hon⟩ := Region.waitsFor_spec hw
        have := hC x o ho (hs x hx) e he hbe
        rwa [hon] at this
    rcases List.mem_cons.1 hj with rfl | hj
    · exact hi
    · exact Closed.anc hC hsz hb r (i :: seen) (fun k hk => hl k (List.mem_cons_of_mem _ hk)) (fun x hx => (List.mem_cons.1 hx).elim (fun e => by rw [e]; exact hi) (hs x)) h.2 j hj
theorem Closed.add {listed : Array Bool} (hC : Closed md ops listed) (hsz : listed.size = ops.size) {j : Nat} (hj : j ∈ Region.ready md ops listed) (_hin : ∀ (x : Nat) (o : Oper), ops[x]? = some o → ∀ e ∈ o.after, e.on < ops.size) : Closed md ops (listed.setIfInBounds j true) := by
  obtain ⟨_, oj, hoj, hall⟩ := mem_ready.1 hj
  have up : ∀ y, listed.getD y false = true → (listed.setIfInBounds j true).getD y false = true := fun y hy => by
    by_cases e : y = j
    · subst e
      have : y < listed.size := by rw [hsz]; exact (Array.getElem?_eq_some_iff.1 hoj).1
      simp [this]
    · simp only [Array.getD_eq_getD_getElem?, Array.getElem?_setIfInBounds_ne (Ne.symm e)] at hy ⊢; exact hy
  intro x o ho hx e he hbe
  by_cases ej : x = j
  · subst ej
    obtain rfl : o = oj := Option.some.inj (ho.symm.trans hoj)
    have h1 := hall e he hbe
    exact up _ h1
  · refine up _ (hC x o ho ?_ e he hbe)
    simp only [Array.getD_eq_getD_getElem?, Array.getElem?_setIfInBounds_ne (Ne.symm ej)] at hx ⊢; exact hx

/-- A plain step that only yields is one within the fence. -/
theorem wpIn_of_np {o : Oper} {a : Act} {w : World} {K : Act → World → Prop} (h : o.wp P a w K NP) : o.wpIn Fence.wide n P a w K Q := by
  unfold Oper.wp at h
  refine ⟨fun _ _ => trivial, ?_⟩
  rw [show Fence.wide.round = none from rfl, Oper.semAt_none]
  generalize (execOp a.eval o).run P w = r at *
  cases r with
  | ok x w' =>
    cases x <;> simp only [Oper.upon, Oper.uponIn] at h ⊢
    case value u => exact h
    case skip => exact h
    case defer d => exact h
    case enter f args =>
      refine ⟨fun h => (by cases h), callsIn_wide.2 (Calls.mono h fun e w'' he => ?_)⟩
      cases e with
      | returned u => exact he
      | panicked c => exact he.elim
      | outgrown => obtain ⟨_, _, h⟩ := he; exact False.elim h
    case row row args => exact ⟨fun h => (by cases h), fun c cs _ => let ⟨v, w', r, s⟩ := h c cs; ⟨v, w', r, stepsIn_wide.2 s⟩⟩
    all_goals exact h.elim
  | halt x w' => cases x <;> simp only [Oper.upon] at h <;> exact h.elim

theorem wpOpIn_unput {j : Nat} {oi oj : Oper} {v : Value} (hj : ops[j]? = some oj) (hap : oi.apart ops oj = true)
    (hsi : ∀ cs b, oi.op ≠ .select cs b) (hsj : ∀ cs b, oj.op ≠ .select cs b)
    (hQ : ∀ c a w, Q (.panic c) (a.put oi.dst v) w → Q (.panic c) a w) {K : Act → World → Prop} {a : Act} {w : World}
    (hy : StepW P ops S oi v a.tmps) (h : wpOpIn Fence.wide n P ops Q j K (a.put oi.dst v) w) :
    wpOpIn Fence.wide n P ops Q j (fun a' w' => StepW P ops S oi v a'.tmps ∧ K (a'.put oi.dst v) w') a w := by
  obtain ⟨h1, h2, h3⟩ := Oper.apart_spec hap
  have keep : ∀ (a : Act), StepW P ops S oi v a.tmps → ∀ u, StepW P ops S oi v (a.put oj.dst u).tmps := fun a hy u => hy.put hsi h3 (fun t ht e => h2 t e ht)
  unfold wpOpIn at *
  simp only [hj] at *
  rw [wanted_put oj a oi.dst v h1, about_put oj w a oi.dst v h1] at h
  split
  · rename_i hw
    simp only [hw, if_true] at h
    unfold Oper.wpIn at *
    rw [about_put oj w a oi.dst v h1] at h
    refine ⟨h.1, ?_⟩
    have h := h.2
    rw [show Fence.wide.round = none from rfl, Oper.semAt_none, execOp_put oj hsj a oi.dst v h1] at h
    rw [show Fence.wide.round = none from rfl, Oper.semAt_none]
    generalize (execOp a.eval oj).run P w = r at *
    cases r with
    | ok x w' =>
      cases x <;> simp only [Oper.uponIn] at h ⊢
      case value u => exact ⟨keep a hy u, by rw [← Act.put_comm a v u h2]; exact h⟩
      case skip => exact ⟨keep a hy _, by rw [← Act.put_comm a v undef h2]; exact h⟩
      case defer d =>
        refine ⟨keep { a with defers := d :: a.defers } hy _, ?_⟩
        rw [← Act.put_comm _ v undef h2, ← Act.put_defers]
        exact h
      case enter f args =>
        refine ⟨h.1, CallsIn.mono h.2 fun e w'' he => ?_⟩
        cases e with
        | returned u => exact ⟨keep a hy u, by rw [← Act.put_comm a v u h2]; exact he⟩
        | panicked c => exact hQ _ _ _ he
        | outgrown => exact he
      case row row args => exact ⟨h.1, RowsIn.mono h.2 fun u w'' he => ⟨keep a hy u, by rw [← Act.put_comm a v u h2]; exact he⟩⟩
      case round l f tmps assign body =>
        refine ⟨h.1, RoundIn.mono h.2 fun e w'' he => ?_⟩
        cases e with
        | returned u => exact ⟨keep a hy u, by rw [← Act.put_comm a v u h2]; exact he⟩
        | panicked c => exact hQ _ _ _ he
        | outgrown => exact he
    | halt x w' =>
      cases x <;> simp only [Oper.uponIn] at h ⊢
      case panic u => exact hQ _ _ _ h
  · rename_i hw
    simp only [hw] at h
    exact ⟨h.1, keep a hy _, by rw [← Act.put_comm a v undef h2]; exact h.2⟩

theorem wpWI_first {i : Nat} {oi : Oper} {v : Value} {l : List Nat} (hin : ∀ (x : Nat) (o : Oper), ops[x]? = some o → ∀ e ∈ o.after, e.on < ops.size) (hlt : ∀ i ∈ l, i < ops.size) (hanc : ancB md ops b [] l = true) (hil : i ∈ l) (hi : ops[i]? = some oi) (hsel : ∀ (j : Nat) (o : Oper) cs b, ops[j]? = some o → o.op ≠ .select cs b)
    (hQ : ∀ c a w, Q (.panic c) (a.put oi.dst v) w → Q (.panic c) a w) :
    ∀ (f : Nat) (listed : Array Bool) (a : Act) (w : World), Closed md ops listed → listed.size = ops.size →
      (∀ j oj, ops[j]? = some oj → j ≠ i → listed.getD j true = false → (∀ e ∈ oj.after, Region.binds md e = true → e.on ≠ i) → oi.apart ops oj = true) →
      i ∈ Region.ready md ops listed → StepW P ops S oi v a.tmps →
      wpWI b n P md ops Q S f (listed.setIfInBounds i true) (a.put oi.dst v) w → wpWI b n P md ops Q S (f + 1) listed a w := by
  have here : ∀ (f : Nat) (listed : Array Bool) (a : Act) (w w' : World), StepW P ops S oi v a.tmps → Gr w w' → S w' → wpWI b n P md ops Q S f (listed.setIfInBounds i true) (a.put oi.dst v) w →
      wpOpIn Fence.wide n P ops Q i (fun a' w'' => S w'' ∧ wpWI b n P md ops Q S f (listed.setIfInBounds i true) a' w'') a w' := by
    intro f listed a w w' hy hg hS H
    unfold wpOpIn
    simp only [hi]
    rcases hy with ⟨hw, hst⟩ | ⟨hw, rfl⟩
    · simp only [hw, if_true]
      refine wpIn_of_np (Oper.wp_mono (fun a' w'' hh => ?_) (hst a.defers w' hS))
      exact ⟨hh.2.1, by rw [hh.1]; exact wpWI_up H (hg.trans hh.2.2)⟩
    · simp only [hw]
      exact ⟨fun _ _ => trivial, hS, wpWI_up H hg⟩
  intro f
  induction f with
  | zero =>
    intro listed a w hC hsz _ hr hy H w' hg hS
    refine .inr ⟨fun h => (by rw [h] at hr; cases hr), fun j hj => ?_⟩
    by_cases hji : j = i
    · subst hji; exact here 0 listed a w w' hy hg hS H
    · have h1 := ready_mono hj hji
      rw [(H w' hg hS).1] at h1
      cases h1
  | succ f ih =>
    intro listed a w hC hsz hfree hr hy H w' hg hS
    refine .inr ⟨fun h => (by rw [h] at hr; cases hr), fun j hj => ?_⟩
    by_cases hji : j = i
    · subst hji; exact here (f + 1) listed a w w' hy hg hS H
    · rcases H w' hg hS with hst | hgo
      · have h1 := ready_mono hj hji
        rw [hst.1] at h1
        obtain rfl : j = b := by simpa using h1
        have h2 := hC.anc hsz hj l [] hlt (fun x hx => by cases hx) hanc i hil
        have h3 := (mem_ready.1 hr).1
        have h4 : i < listed.size := by rw [hsz]; exact hlt i hil
        simp [h4] at h2 h3
        rw [h2] at h3; cases h3
      have h1 := hgo.2 j (ready_mono hj hji)
      obtain ⟨hjun, oj, hoj, hall⟩ := mem_ready.1 hj
      have hnot : ∀ e ∈ oj.after, Region.binds md e = true → e.on ≠ i := fun e he hb heq => by
        have h1 := hall e he hb
        have h0 := (mem_ready.1 hr).1
        rw [heq] at h1
        rcases Nat.lt_or_ge i listed.size with h' | h'
        · simp [h'] at h0 h1; rw [h0] at h1; cases h1
        · simp [Array.getElem?_eq_none h'] at h1
      have h2 := wpOpIn_unput hoj (hfree j oj hoj hji hjun hnot) (fun cs b => hsel i oi cs b hi) (fun cs b => hsel j oj cs b hoj) hQ hy h1
      refine wpOpIn_mono (fun a' w'' hh => ⟨hh.2.1, ?_⟩) h2
      refine ih (listed.setIfInBounds j true) a' w'' (hC.add hsz hj hin) (by simpa using hsz) (fun k ok hk hki hun hno => ?_) (ready_mono hr (Ne.symm hji)) hh.1 ?_
      · refine hfree k ok hk hki ?_ hno
        by_cases hkj : k = j
        · subst hkj; exact hjun
        · rwa [getD_set_ne true (Ne.symm hkj)] at hun
      · rw [Array.setIfInBounds_comm _ _ hji]
        exact hh.2.2

/-- What is asked of the text. -/
def statB (md : Region.Mode) (ops : Array Oper) (b : Nat) (l : List Nat) (listed : Array Bool) : Bool :=
  ((List.range ops.size).all fun x => (ops[x]?.map fun o => o.after.all fun e => decide (e.on < ops.size) && (!(listed.getD x false) || !(Region.binds md e) || listed.getD e.on false)).getD true) && (l.all fun i => decide (i < ops.size)) && ancB md ops b [] l && listed.size == ops.size
theorem statB_spec {l : List Nat} {listed : Array Bool} (h : statB md ops b l listed = true) : (∀ (x : Nat) (o : Oper), ops[x]? = some o → ∀ e ∈ o.after, e.on < ops.size) ∧ (∀ i ∈ l, i < ops.size) ∧ ancB md ops b [] l = true ∧ Closed md ops listed ∧ listed.size = ops.size := by
  unfold statB at h
  simp only [Bool.and_eq_true] at h
  obtain ⟨⟨⟨h1, h2⟩, h3⟩, h4⟩ := h
  have key : ∀ (x : Nat) (o : Oper), ops[x]? = some o → ∀ e ∈ o.after, e.on < ops.size ∧ (listed.getD x false = true → Region.binds md e = true → listed.getD e.on false = true) := fun x o ho e he => by
    have := List.all_eq_true.1 h1 x (List.mem_range.2 (Array.getElem?_eq_some_iff.1 ho).1)
    rw [ho] at this
    simp only [Option.map_some, Option.getD_some, Array.all_eq_true'] at this
    have := this e he
    simp only [Bool.and_eq_true, decide_eq_true_eq, Bool.or_eq_true, Bool.not_eq_true'] at this
    refine ⟨this.1, fun hx hb => ?_⟩
    rcases this.2 with (h | h) | h
    · rw [hx] at h; cases h
    · rw [hb] at h; cases h
    · exact h
  refine ⟨fun x o ho e he => (key x o ho e he).1, fun i hi => ?_, h3, fun x o ho hx e he hb => (key x o ho e he).2 hx hb, by simpa using h4⟩
  have := List.all_eq_true.1 h2 i hi
  simpa using this
/-- TAKE i FIRST. -/
theorem wpWI_det {f : Nat} {listed l2 : Array Bool} {a : Act} {t' : Array Value} {w : World} (i : Nat) {l : List Nat} (hst : statB md ops b l listed = true) (hil : i ∈ l) {oi : Oper} (hi : ops[i]? = some oi) (hs : selB ops = true) (hQ : PanicFree Q) (hb : firstB md ops listed i = true)
    (hw : Region.wanted oi (yielded ops a.tmps) = true)
    (h : ∀ ds w, S w → ∀ K : Act → World → Prop, (∀ w', S w' → Gr w w' → K { tmps := t', defers := ds } w') → oi.wp P { tmps := a.tmps, defers := ds } w K NP)
    (ha : (a.put oi.dst ((oi.dst.map fun d => t'.getD d undef).getD undef)).tmps = t') (hl : listed.setIfInBounds i true = l2)
    (H : wpWI b n P md ops Q S f l2 { tmps := t', defers := a.defers } w) : wpWI b n P md ops Q S (f + 1) listed a w := by
  unfold firstB at hb
  simp only [Bool.and_eq_true, List.all_eq_true, List.mem_range, Bool.or_eq_true, List.contains_iff_mem] at hb
  subst hl
  obtain ⟨hin, hlt, hanc, hC, hsz⟩ := statB_spec hst
  refine wpWI_first hin hlt hanc hil hi (sel_of hs) (fun c a w => hQ c a _ _ w) f listed a w hC hsz (fun j oj hj hji hun hno => ?_) hb.1 (v := (oi.dst.map fun d => t'.getD d undef).getD undef) (.inl ⟨hw, fun ds w hS => ?_⟩) ?_
  · rcases hb.2 j (Array.getElem?_eq_some_iff.1 hj).1 with ((h1 | h1) | h1) | h1
    · exact absurd (by simpa using h1) hji
    · rw [h1] at hun; cases hun
    · obtain ⟨o', ho', e, he, hbe, hon⟩ := Region.waitsFor_spec h1
      obtain rfl : o' = oj := Option.some.inj (ho'.symm.trans hj)
      exact absurd hon (hno e he hbe)
    · rw [hi, hj] at h1; exact h1
  · refine h ds w hS _ fun w' hS' hg => ⟨?_, hS', hg⟩
    rw [put_tmps a.tmps ds]
    congr 1
    refine ha.symm.trans ?_
    cases oi.dst <;> rfl
  · have e : a.put oi.dst ((oi.dst.map fun d => t'.getD d undef).getD undef) = { tmps := t', defers := a.defers } := by
      have e0 : ∀ x : Act, x.tmps = t' → x.defers = a.defers → x = { tmps := t', defers := a.defers } := by rintro ⟨_, _⟩ rfl rfl; rfl
      exact e0 _ ha (by cases oi.dst <;> rfl)
    rw [e]; exact H
/-- Here the kit's walk goes on. -/
theorem wpWI_stop {f : Nat} {listed : Array Bool} {a : Act} {w : World} (hr : Region.ready md ops listed = [b]) (h : ∀ w', Gr w w' → S w' → wpAnyIn Fence.wide n P md ops Q (f + 1) listed a w') : wpWI b n P md ops Q S (f + 1) listed a w :=
  fun w' hg hS => .inl ⟨hr, h w' hg hS⟩
/-- A REGION THAT DRAWS ITS ORDER, WITHIN AN ITERATOR. -/
theorem wpIn_region_w {id : Nat} {l : List Oper} {a : Act} {w : World} (b : Nat) (S : World → Prop) (hm : P.follows .mixedOrders = true) (hS : S w.drew)
    (h : wpWI b n P .any l.toArray (NQ Q) S l.length (Array.replicate l.length false) a w.drew) : (Code.region id l.toArray true).wpIn Fence.wide n P Q a w :=
  Code.wpIn_mono (Q := NQ Q) (fun e a w h => by cases e <;> first | exact h | exact h.elim) (wpIn_region_any (Q := NQ Q) hm (by simpa using wpAnyIn_of_wpWI _ _ _ _ h hS))
end
end Go.Proofs.YtidgeagpgllkeaaGreat

namespace Go.Proofs.YtidgeagpgllkeaaGreat
open Go.RowKit Go.Shelf

attribute [local go_sem] Oper.semAt_some

/-- The numbers below k that are like. -/
def likeV (R : Nat → Bool) (k : Nat) : List Nat := (List.range k).filter R
theorem likeV_succ (R : Nat → Bool) (k : Nat) : likeV R (k + 1) = likeV R k ++ if R k = true then [k] else [] := by
  unfold likeV
  rw [List.range_succ, List.filter_append, List.filter_cons, List.filter_nil]
theorem likeV_len (R : Nat → Bool) (k : Nat) : (likeV R k).length ≤ k := by
  unfold likeV; exact Nat.le_trans (List.length_filter_le _ _) (by simp)
theorem likeV_prefix (R : Nat → Bool) {j k : Nat} (h : j ≤ k) : likeV R j <+: likeV R k := by
  induction k with
  | zero => obtain rfl : j = 0 := by omega
            exact List.prefix_refl _
  | succ k ih =>
    by_cases h' : j = k + 1
    · rw [h']; exact List.prefix_refl _
    · rw [likeV_succ]; exact (ih (by omega)).trans (List.prefix_append _ _)
/-- What the iterator reads lies as it lay. -/
structure KL (Bm Bi q B : Nat) (W W' : World) : Prop where
  m : W'.heap[Bm]? = W.heap[Bm]?
  i : W'.heap[Bi]? = W.heap[Bi]?
  q : W'.heap[q]? = W.heap[q]?
  low : ∀ k, k < B → W'.heap[k]? = W.heap[k]?
  size : W.heap.size ≤ W'.heap.size
theorem KL.refl (Bm Bi q B : Nat) (W : World) : KL Bm Bi q B W W := ⟨rfl, rfl, rfl, fun _ _ => rfl, Nat.le_refl _⟩
theorem KL.trans {Bm Bi q B : Nat} {X Y Z : World} (h : KL Bm Bi q B X Y) (k : KL Bm Bi q B Y Z) : KL Bm Bi q B X Z := ⟨k.m.trans h.m, k.i.trans h.i, k.q.trans h.q, fun j hj => (k.low j hj).trans (h.low j hj), Nat.le_trans h.size k.size⟩
theorem KL.gr {Bm Bi q B : Nat} {W W' : World} (h : Gr W W') (hm : Bm < W.heap.size) (hi : Bi < W.heap.size) (hq : q < W.heap.size) (hB : B ≤ W.heap.size) : KL Bm Bi q B W W' := ⟨h.block _ hm, h.block _ hi, h.block _ hq, fun k hk => h.block k (by omega), Below.size h⟩
/-- What the iterator reads: the boxes, the lists. -/
structure LkM (Bm Bi q B i : Nat) (l0 l1 : List Mk) (A0 A1 : Option Addr) (c0 c1 : Nat) (slack : Int) (W : World) : Prop where
  cm : W.cell? ⟨Bm, 0, none⟩ = some (.pointer (some ⟨q, 0, none⟩))
  ci : W.cell? ⟨Bi, 0, none⟩ = some (.int .i64 i)
  q0 : W.cell? ⟨q, 0, none⟩ = some (.slice A0 l0.length c0)
  q1 : W.cell? ⟨q, 1, none⟩ = some (.slice A1 l1.length c1)
  q2 : W.cell? ⟨q, 2, none⟩ = some (.int .i64 slack)
  r0 : Row W B 6 A0 l0.length (mksC l0)
  r1 : Row W B 6 A1 l1.length (mksC l1)
  base : B ≤ W.heap.size
section
variable {Bm Bi q B i c0 c1 : Nat} {l0 l1 : List Mk} {A0 A1 : Option Addr} {slack : Int} {W W' : World}
theorem LkM.ltm (h : LkM Bm Bi q B i l0 l1 A0 A1 c0 c1 slack W) : Bm < W.heap.size := World.block_lt_of_cell? _ _ h.cm
theorem LkM.lti (h : LkM Bm Bi q B i l0 l1 A0 A1 c0 c1 slack W) : Bi < W.heap.size := World.block_lt_of_cell? _ _ h.ci
theorem LkM.ltq (h : LkM Bm Bi q B i l0 l1 A0 A1 c0 c1 slack W) : q < W.heap.size := World.block_lt_of_cell? _ _ h.q0
theorem LkM.kl (h : LkM Bm Bi q B i l0 l1 A0 A1 c0 c1 slack W) (k : KL Bm Bi q B W W') : LkM Bm Bi q B i l0 l1 A0 A1 c0 c1 slack W' :=
  ⟨(World.cell?_of_block k.m).trans h.cm, (World.cell?_of_block k.i).trans h.ci, (World.cell?_of_block k.q).trans h.q0, (World.cell?_of_block k.q).trans h.q1, (World.cell?_of_block k.q).trans h.q2, h.r0.keep fun b _o hb => World.cell?_of_block (k.low b hb), h.r1.keep fun b _o hb => World.cell?_of_block (k.low b hb), Nat.le_trans h.base k.size⟩
theorem LkM.gr (h : LkM Bm Bi q B i l0 l1 A0 A1 c0 c1 slack W) (k : Gr W W') : LkM Bm Bi q B i l0 l1 A0 A1 c0 c1 slack W' := h.kl (KL.gr k h.ltm h.lti h.ltq h.base)
end
def mkZ : Mk := ⟨ByteArray.empty, 0, 0, 0, 0, 0⟩
abbrev LikeK (R : Nat → Bool) (N : Nat) := { k : Nat // k < N ∧ R k = true }
def likeR (l0 l1 : List Mk) (i : Nat) (slack : Int) (k : Nat) : Bool := alikeV (l0[i]?.getD mkZ) (l1[k]?.getD mkZ) slack

set_option maxRecDepth 100000 in
set_option maxHeartbeats 4000000 in
theorem like1_in (n : Nat) (hn : 1 ≤ n) (l Bm Bi q B : Nat) (l0 l1 : List Mk) (A0 A1 : Option Addr) (c0 c1 i : Nat) (slack : Int) (hi : i < l0.length) (hl1 : l1.length ≤ 1000) (_hl0 : l0.length ≤ 1000) (HS : Hid (MkS (l0[i]?.getD mkZ) ∧ ∀ m ∈ l1, MkS m)) (J Jx : List (LikeK (likeR l0 l1 i slack) l1.length) → World → Prop)
    (hJ : ∀ pre X Y, J pre X → Gr X Y → J pre Y)
    (hY : ∀ pre (x : LikeK (likeR l0 l1 i slack) l1.length) W, J pre W → pre.length < l1.length → YieldAt Fence.wide (n - 1) Tryz.prog l #[.int .i64 x.1] W fun e W' =>
      (e = .returned (.bool true) ∧ J (pre ++ [x]) W' ∧ KL Bm Bi q B W W') ∨ (e = .returned (.bool false) ∧ Jx (pre ++ [x]) W'))
    (W : World) (M : LkM Bm Bi q B i l0 l1 A0 A1 c0 c1 slack W) (h0 : J [] W) :
    CallsIn Fence.wide n Tryz.prog 159 #[.func (.yield l) #[] #[], .pointer (some ⟨Bm, 0, none⟩), .pointer (some ⟨Bi, 0, none⟩)] W fun e W' => (∃ v, e = .returned v) ∧
      ((∃ ys : List (LikeK (likeR l0 l1 i slack) l1.length), ys.map (·.1) = likeV (likeR l0 l1 i slack) l1.length ∧ J ys W') ∨ (∃ pre : List (LikeK (likeR l0 l1 i slack) l1.length), pre.map (·.1) <+: likeV (likeR l0 l1 i slack) l1.length ∧ Jx pre W')) := by
  refine callsIn_of_wp Tryz.func159 rfl trivial ?_ rfl
  simp only [Tryz.ntmps159, List.size_toArray, List.length_cons, List.length_nil, Nat.reduceAdd, Nat.reduceSub, Array.replicate_succ, Array.replicate_zero, List.push_toArray, List.append_toArray, List.nil_append, List.cons_append]
  have f0 := M.cm; have f1 := M.q1; have lm := M.ltm; have lq := M.ltq
  gi_wp2
  clear f0 f1 lm lq
  gi_loopw [12] (fun s12 wr => ∃ (k : Nat) (pre : List (LikeK (likeR l0 l1 i slack) l1.length)), k ≤ l1.length ∧ s12 = .int .i64 k ∧ Hid (pre.map (·.1) = likeV (likeR l0 l1 i slack) k) ∧ J pre wr ∧ LkM Bm Bi q B i l0 l1 A0 A1 c0 c1 slack wr) (fun s12 _ => l1.length - (intOf s12).toNat)
  case atStart => exact ⟨0, [], by omega, rfl, Lib.hid rfl, h0, M⟩
  case round =>
    clear M h0
    obtain ⟨k, pre, hk, rfl, hp, hJw, M⟩ := hrel
    by_cases hlt : k < l1.length
    · have i1 : ((k : Int) < (l1.length : Int)) := by omega
      have i2 : ((i : Int) < (l0.length : Int)) := by omega
      obtain ⟨g1, o1, hA1, hg1, x0, x1, x2, x3, x4, x5⟩ := mkCells M.r1 hlt
      obtain ⟨g0, o0, hA0, hg0, y0, y1, y2, y3, y4, y5⟩ := mkCells M.r0 hi
      subst hA1
      subst hA0
      have HSX : Hid (MkS l1[k]) := Lib.hid (HS.out.2 _ (List.getElem_mem hlt))
      have HSY : Hid (MkS l0[i]) := Lib.hid (by have := HS.out.1; rwa [List.getElem?_eq_getElem hi] at this)
      have hR : likeR l0 l1 i slack k = alikeV l0[i] l1[k] slack := by unfold likeR; rw [List.getElem?_eq_getElem hi, List.getElem?_eq_getElem hlt]; rfl
      have hlen : pre.length < l1.length := by
        have h1 := likeV_len (likeR l0 l1 i slack) k
        rw [← hp.out, List.length_map] at h1
        omega
      have HST := Lib.hid (likeV_succ (likeR l0 l1 i slack) k)
      obtain ⟨x, hx⟩ : ∃ x, l1[k] = x := ⟨_, rfl⟩
      obtain ⟨y, hy⟩ : ∃ y, l0[i] = y := ⟨_, rfl⟩
      rw [hx] at x0 x1 x2 x3 x4 x5 HSX
      rw [hy] at y0 y1 y2 y3 y4 y5 HSY
      rw [hx, hy] at hR
      have hB := M.base
      have lg1 : g1 < wr.heap.size := by omega
      have lg0 : g0 < wr.heap.size := by omega
      have f0 := M.cm; have f1 := M.q0; have f2 := M.ci; have f3 := M.q2; have lm := M.ltm; have lq := M.ltq; have li := M.lti
      have HPM : Hid (∀ t : World, t = t) := Lib.hid fun _ => rfl
      have hmix : Tryz.prog.follows .mixedOrders = true := by kernel_rfl
      have hgA : ∀ o, Gr wr (wr.alloc o).drew := fun o => ((Below.refl _ _).alloc (Nat.le_refl _) o).drew
      have HJ := Lib.hid hJw
      have HM := Lib.hid M
      clear hJw M
      cases hRk : likeR l0 l1 i slack k
      · rw [hRk] at hR
        have HA : Hid (alikeV y x slack = false) := Lib.hid hR.symm
        have HP : Hid (pre.map (·.1) = likeV (likeR l0 l1 i slack) (k + 1)) := Lib.hid (by rw [HST.out, hRk, hp.out]; simp)
        clear hR HST hRk
        gi_wp2_with fail
        have b5 := Blk.new wr 79 #[.string x.nm, .int .i64 x.al, .int .i64 x.ah, .int .i64 x.dl, .int .i64 x.dh, .int .i64 x.lv]
        have hgB : Gr wr (wr.alloc (.cells #[.string x.nm, .int .i64 x.al, .int .i64 x.ah, .int .i64 x.dl, .int .i64 x.dh, .int .i64 x.lv] 79)) := (Below.refl _ _).alloc (Nat.le_refl _) _
        obtain ⟨e0, e1, e2, e3, e4, e5, e6⟩ := blk6 b5
        have lb5 := b5.lt
        have MB := HM.out.gr hgB
        have f0 := MB.cm; have f1 := MB.q0; have f2 := MB.ci; have f3 := MB.q2; have lm := MB.ltm; have lq := MB.ltq; have li := MB.lti
        obtain ⟨_, _, hA0', _, y0, y1, y2, y3, y4, y5⟩ := mkCells MB.r0 hi
        simp only [Option.some.injEq, Addr.mk.injEq, and_true] at hA0'
        obtain ⟨rfl, rfl⟩ := hA0'
        rw [hy] at y0 y1 y2 y3 y4 y5
        have lg0 := Nat.lt_of_lt_of_le lg0 (Below.size hgB)
        obtain ⟨WB, hWB⟩ : ∃ WB, wr.alloc (.cells #[.string x.nm, .int .i64 x.al, .int .i64 x.ah, .int .i64 x.dl, .int .i64 x.dh, .int .i64 x.lv] 79) = WB := ⟨_, rfl⟩
        rw [hWB] at b5 hgB e0 e1 e2 e3 e4 e5 e6 lb5 MB f0 f1 f2 f3 lm lq li y0 y1 y2 y3 y4 y5 lg0 ⊢
        have HGB := Lib.hid hgB
        clear hWB b5 MB hgB
        refine wpIn_region_w 13 (Gr _) (by kernel_rfl) (Below.refl _ _).drew ?_
        refine wpWI_det (t' := ?ct0R238) (l := [12, 11, 10, 9, 8, 7, 6, 5, 4, 3, 2, 1, 0]) 0 (by kernel_rfl) (by decide) (by rfl) (by kernel_rfl) (NQ_free _) (by kernel_rfl) ?cw0R238 ?ch0R238 ?ca0R238 (Eq.refl _) ?cH0R238
        case cw0R238 => (go_simp; done)
        case ch0R238 =>
          intro ds w' hS K hK
          have hc := (bcell hS).1
          have hf := (bcell hS).2
          have hz := hS.size
          try simp at hz
          go_simp
          try go_bits
          first
            | exact hK _ hS (Gr.refl _)
            | exact hK _ (by repeat (first | (with_reducible exact Below.refl _ _) | (with_reducible assumption) | ((with_reducible refine Below.setCell ?_ ?_ _); rotate_left; · (first | exact Nat.le_refl _ | (simp; done) | (simp; omega) | omega)) | ((with_reducible refine Below.alloc ?_ ?_ _); rotate_left; · (first | exact Nat.le_refl _ | (simp; done) | (simp; omega) | omega)) | (with_reducible apply Below.drew) | (with_reducible apply below_drewN') | (refine Below.trans ?_ (Below.mono (by assumption) (by first | exact Nat.le_refl _ | (simp; done) | (simp; omega) | omega))) | exact Below.refl _ _ | assumption)) (by repeat (first | (with_reducible exact Below.refl _ _) | (with_reducible assumption) | ((with_reducible refine Below.setCell ?_ ?_ _); rotate_left; · (first | exact Nat.le_refl _ | (simp; done) | (simp; omega) | omega)) | ((with_reducible refine Below.alloc ?_ ?_ _); rotate_left; · (first | exact Nat.le_refl _ | (simp; done) | (simp; omega) | omega)) | (with_reducible apply Below.drew) | (with_reducible apply below_drewN') | (refine Below.trans ?_ (Below.mono (by assumption) (by first | exact Nat.le_refl _ | (simp; done) | (simp; omega) | omega))) | exact Below.refl _ _ | assumption))
        case ca0R238 => (first | (simp [Act.put]; done) | (simp [Act.put, *]; done))
        try dsimp only
        refine wpWI_det (t' := ?ct1R238) (l := [12, 11, 10, 9, 8, 7, 6, 5, 4, 3, 2, 1, 0]) 1 (by kernel_rfl) (by decide) (by rfl) (by kernel_rfl) (NQ_free _) (by kernel_rfl) ?cw1R238 ?ch1R238 ?ca1R238 (Eq.refl _) ?cH1R238
        case cw1R238 => (go_simp; done)
        case ch1R238 =>
          intro ds w' hS K hK
          have hc := (bcell hS).1
          have hf := (bcell hS).2
          have hz := hS.size
          try simp at hz
          go_simp
          try go_bits
          first
            | exact hK _ hS (Gr.refl _)
            | exact hK _ (by repeat (first | (with_reducible exact Below.refl _ _) | (with_reducible assumption) | ((with_reducible refine Below.setCell ?_ ?_ _); rotate_left; · (first | exact Nat.le_refl _ | (simp; done) | (simp; omega) | omega)) | ((with_reducible refine Below.alloc ?_ ?_ _); rotate_left; · (first | exact Nat.le_refl _ | (simp; done) | (simp; omega) | omega)) | (with_reducible apply Below.drew) | (with_reducible apply below_drewN') | (refine Below.trans ?_ (Below.mono (by assumption) (by first | exact Nat.le_refl _ | (simp; done) | (simp; omega) | omega))) | exact Below.refl _ _ | assumption)) (by repeat (first | (with_reducible exact Below.refl _ _) | (with_reducible assumption) | ((with_reducible refine Below.setCell ?_ ?_ _); rotate_left; · (first | exact Nat.le_refl _ | (simp; done) | (simp; omega) | omega)) | ((with_reducible refine Below.alloc ?_ ?_ _); rotate_left; · (first | exact Nat.le_refl _ | (simp; done) | (simp; omega) | omega)) | (with_reducible apply Below.drew) | (with_reducible apply below_drewN') | (refine Below.trans ?_ (Below.mono (by assumption) (by first | exact Nat.le_refl _ | (simp; done) | (simp; omega) | omega))) | exact Below.refl _ _ | assumption))
        case ca1R238 => (first | (simp [Act.put]; done) | (simp [Act.put, *]; done))
        try dsimp only
        refine wpWI_det (t' := ?ct2R238) (l := [12, 11, 10, 9, 8, 7, 6, 5, 4, 3, 2, 1, 0]) 2 (by kernel_rfl) (by decide) (by rfl) (by kernel_rfl) (NQ_free _) (by kernel_rfl) ?cw2R238 ?ch2R238 ?ca2R238 (Eq.refl _) ?cH2R238
        case cw2R238 => (go_simp; done)
        case ch2R238 =>
          intro ds w' hS K hK
          have hc := (bcell hS).1
          have hf := (bcell hS).2
          have hz := hS.size
          try simp at hz
          go_simp
          try go_bits
          first
            | exact hK _ hS (Gr.refl _)
            | exact hK _ (by repeat (first | (with_reducible exact Below.refl _ _) | (with_reducible assumption) | ((with_reducible refine Below.setCell ?_ ?_ _); rotate_left; · (first | exact Nat.le_refl _ | (simp; done) | (simp; omega) | omega)) | ((with_reducible refine Below.alloc ?_ ?_ _); rotate_left; · (first | exact Nat.le_refl _ | (simp; done) | (simp; omega) | omega)) | (with_reducible apply Below.drew) | (with_reducible apply below_drewN') | (refine Below.trans ?_ (Below.mono (by assumption) (by first | exact Nat.le_refl _ | (simp; done) | (simp; omega) | omega))) | exact Below.refl _ _ | assumption)) (by repeat (first | (with_reducible exact Below.refl _ _) | (with_reducible assumption) | ((with_reducible refine Below.setCell ?_ ?_ _); rotate_left; · (first | exact Nat.le_refl _ | (simp; done) | (simp; omega) | omega)) | ((with_reducible refine Below.alloc ?_ ?_ _); rotate_left; · (first | exact Nat.le_refl _ | (simp; done) | (simp; omega) | omega)) | (with_reducible apply Below.drew) | (with_reducible apply below_drewN') | (refine Below.trans ?_ (Below.mono (by assumption) (by first | exact Nat.le_refl _ | (simp; done) | (simp; omega) | omega))) | exact Below.refl _ _ | assumption))
        case ca2R238 => (first | (simp [Act.put]; done) | (simp [Act.put, *]; done))
        try dsimp only
        refine wpWI_det (t' := ?ct3R238) (l := [12, 11, 10, 9, 8, 7, 6, 5, 4, 3, 2, 1, 0]) 3 (by kernel_rfl) (by decide) (by rfl) (by kernel_rfl) (NQ_free _) (by kernel_rfl) ?cw3R238 ?ch3R238 ?ca3R238 (Eq.refl _) ?cH3R238
        case cw3R238 => (go_simp; done)
        case ch3R238 =>
          intro ds w' hS K hK
          have hc := (bcell hS).1
          have hf := (bcell hS).2
          have hz := hS.size
          try simp at hz
          go_simp
          try go_bits
          first
            | exact hK _ hS (Gr.refl _)
            | exact hK _ (by repeat (first | (with_reducible exact Below.refl _ _) | (with_reducible assumption) | ((with_reducible refine Below.setCell ?_ ?_ _); rotate_left; · (first | exact Nat.le_refl _ | (simp; done) | (simp; omega) | omega)) | ((with_reducible refine Below.alloc ?_ ?_ _); rotate_left; · (first | exact Nat.le_refl _ | (simp; done) | (simp; omega) | omega)) | (with_reducible apply Below.drew) | (with_reducible apply below_drewN') | (refine Below.trans ?_ (Below.mono (by assumption) (by first | exact Nat.le_refl _ | (simp; done) | (simp; omega) | omega))) | exact Below.refl _ _ | assumption)) (by repeat (first | (with_reducible exact Below.refl _ _) | (with_reducible assumption) | ((with_reducible refine Below.setCell ?_ ?_ _); rotate_left; · (first | exact Nat.le_refl _ | (simp; done) | (simp; omega) | omega)) | ((with_reducible refine Below.alloc ?_ ?_ _); rotate_left; · (first | exact Nat.le_refl _ | (simp; done) | (simp; omega) | omega)) | (with_reducible apply Below.drew) | (with_reducible apply below_drewN') | (refine Below.trans ?_ (Below.mono (by assumption) (by first | exact Nat.le_refl _ | (simp; done) | (simp; omega) | omega))) | exact Below.refl _ _ | assumption))
        case ca3R238 => (first | (simp [Act.put]; done) | (simp [Act.put, *]; done))
        try dsimp only
        refine wpWI_det (t' := ?ct4R238) (l := [12, 11, 10, 9, 8, 7, 6, 5, 4, 3, 2, 1, 0]) 4 (by kernel_rfl) (by decide) (by rfl) (by kernel_rfl) (NQ_free _) (by kernel_rfl) ?cw4R238 ?ch4R238 ?ca4R238 (Eq.refl _) ?cH4R238
        case cw4R238 => (go_simp; done)
        case ch4R238 =>
          intro ds w' hS K hK
          have hc := (bcell hS).1
          have hf := (bcell hS).2
          have hz := hS.size
          try simp at hz
          go_simp
          try go_bits
          first
            | exact hK _ hS (Gr.refl _)
            | exact hK _ (by repeat (first | (with_reducible exact Below.refl _ _) | (with_reducible assumption) | ((with_reducible refine Below.setCell ?_ ?_ _); rotate_left; · (first | exact Nat.le_refl _ | (simp; done) | (simp; omega) | omega)) | ((with_reducible refine Below.alloc ?_ ?_ _); rotate_left; · (first | exact Nat.le_refl _ | (simp; done) | (simp; omega) | omega)) | (with_reducible apply Below.drew) | (with_reducible apply below_drewN') | (refine Below.trans ?_ (Below.mono (by assumption) (by first | exact Nat.le_refl _ | (simp; done) | (simp; omega) | omega))) | exact Below.refl _ _ | assumption)) (by repeat (first | (with_reducible exact Below.refl _ _) | (with_reducible assumption) | ((with_reducible refine Below.setCell ?_ ?_ _); rotate_left; · (first | exact Nat.le_refl _ | (simp; done) | (simp; omega) | omega)) | ((with_reducible refine Below.alloc ?_ ?_ _); rotate_left; · (first | exact Nat.le_refl _ | (simp; done) | (simp; omega) | omega)) | (with_reducible apply Below.drew) | (with_reducible apply below_drewN') | (refine Below.trans ?_ (Below.mono (by assumption) (by first | exact Nat.le_refl _ | (simp; done) | (simp; omega) | omega))) | exact Below.refl _ _ | assumption))
        case ca4R238 => (first | (simp [Act.put]; done) | (simp [Act.put, *]; done))
        try dsimp only
        refine wpWI_det (t' := ?ct5R238) (l := [12, 11, 10, 9, 8, 7, 6, 5, 4, 3, 2, 1, 0]) 5 (by kernel_rfl) (by decide) (by rfl) (by kernel_rfl) (NQ_free _) (by kernel_rfl) ?cw5R238 ?ch5R238 ?ca5R238 (Eq.refl _) ?cH5R238
        case cw5R238 => (go_simp; done)
        case ch5R238 =>
          intro ds w' hS K hK
          have hc := (bcell hS).1
          have hf := (bcell hS).2
          have hz := hS.size
          try simp at hz
          go_simp
          try go_bits
          first
            | exact hK _ hS (Gr.refl _)
            | exact hK _ (by repeat (first | (with_reducible exact Below.refl _ _) | (with_reducible assumption) | ((with_reducible refine Below.setCell ?_ ?_ _); rotate_left; · (first | exact Nat.le_refl _ | (simp; done) | (simp; omega) | omega)) | ((with_reducible refine Below.alloc ?_ ?_ _); rotate_left; · (first | exact Nat.le_refl _ | (simp; done) | (simp; omega) | omega)) | (with_reducible apply Below.drew) | (with_reducible apply below_drewN') | (refine Below.trans ?_ (Below.mono (by assumption) (by first | exact Nat.le_refl _ | (simp; done) | (simp; omega) | omega))) | exact Below.refl _ _ | assumption)) (by repeat (first | (with_reducible exact Below.refl _ _) | (with_reducible assumption) | ((with_reducible refine Below.setCell ?_ ?_ _); rotate_left; · (first | exact Nat.le_refl _ | (simp; done) | (simp; omega) | omega)) | ((with_reducible refine Below.alloc ?_ ?_ _); rotate_left; · (first | exact Nat.le_refl _ | (simp; done) | (simp; omega) | omega)) | (with_reducible apply Below.drew) | (with_reducible apply below_drewN') | (refine Below.trans ?_ (Below.mono (by assumption) (by first | exact Nat.le_refl _ | (simp; done) | (simp; omega) | omega))) | exact Below.refl _ _ | assumption))
        case ca5R238 => (first | (simp [Act.put]; done) | (simp [Act.put, *]; done))
        try dsimp only
        refine wpWI_det (t' := ?ct6R238) (l := [12, 11, 10, 9, 8, 7, 6, 5, 4, 3, 2, 1, 0]) 6 (by kernel_rfl) (by decide) (by rfl) (by kernel_rfl) (NQ_free _) (by kernel_rfl) ?cw6R238 ?ch6R238 ?ca6R238 (Eq.refl _) ?cH6R238
        case cw6R238 => (go_simp; done)
        case ch6R238 =>
          intro ds w' hS K hK
          have hc := (bcell hS).1
          have hf := (bcell hS).2
          have hz := hS.size
          try simp at hz
          go_simp
          try go_bits
          first
            | exact hK _ hS (Gr.refl _)
            | exact hK _ (by repeat (first | (with_reducible exact Below.refl _ _) | (with_reducible assumption) | ((with_reducible refine Below.setCell ?_ ?_ _); rotate_left; · (first | exact Nat.le_refl _ | (simp; done) | (simp; omega) | omega)) | ((with_reducible refine Below.alloc ?_ ?_ _); rotate_left; · (first | exact Nat.le_refl _ | (simp; done) | (simp; omega) | omega)) | (with_reducible apply Below.drew) | (with_reducible apply below_drewN') | (refine Below.trans ?_ (Below.mono (by assumption) (by first | exact Nat.le_refl _ | (simp; done) | (simp; omega) | omega))) | exact Below.refl _ _ | assumption)) (by repeat (first | (with_reducible exact Below.refl _ _) | (with_reducible assumption) | ((with_reducible refine Below.setCell ?_ ?_ _); rotate_left; · (first | exact Nat.le_refl _ | (simp; done) | (simp; omega) | omega)) | ((with_reducible refine Below.alloc ?_ ?_ _); rotate_left; · (first | exact Nat.le_refl _ | (simp; done) | (simp; omega) | omega)) | (with_reducible apply Below.drew) | (with_reducible apply below_drewN') | (refine Below.trans ?_ (Below.mono (by assumption) (by first | exact Nat.le_refl _ | (simp; done) | (simp; omega) | omega))) | exact Below.refl _ _ | assumption))
        case ca6R238 => (first | (simp [Act.put]; done) | (simp [Act.put, *]; done))
        try dsimp only
        refine wpWI_det (t' := ?ct7R238) (l := [12, 11, 10, 9, 8, 7, 6, 5, 4, 3, 2, 1, 0]) 7 (by kernel_rfl) (by decide) (by rfl) (by kernel_rfl) (NQ_free _) (by kernel_rfl) ?cw7R238 ?ch7R238 ?ca7R238 (Eq.refl _) ?cH7R238
        case cw7R238 => (go_simp; done)
        case ch7R238 =>
          intro ds w' hS K hK
          have hc := (bcell hS).1
          have hf := (bcell hS).2
          have hz := hS.size
          try simp at hz
          go_simp
          try go_bits
          first
            | exact hK _ hS (Gr.refl _)
            | exact hK _ (by repeat (first | (with_reducible exact Below.refl _ _) | (with_reducible assumption) | ((with_reducible refine Below.setCell ?_ ?_ _); rotate_left; · (first | exact Nat.le_refl _ | (simp; done) | (simp; omega) | omega)) | ((with_reducible refine Below.alloc ?_ ?_ _); rotate_left; · (first | exact Nat.le_refl _ | (simp; done) | (simp; omega) | omega)) | (with_reducible apply Below.drew) | (with_reducible apply below_drewN') | (refine Below.trans ?_ (Below.mono (by assumption) (by first | exact Nat.le_refl _ | (simp; done) | (simp; omega) | omega))) | exact Below.refl _ _ | assumption)) (by repeat (first | (with_reducible exact Below.refl _ _) | (with_reducible assumption) | ((with_reducible refine Below.setCell ?_ ?_ _); rotate_left; · (first | exact Nat.le_refl _ | (simp; done) | (simp; omega) | omega)) | ((with_reducible refine Below.alloc ?_ ?_ _); rotate_left; · (first | exact Nat.le_refl _ | (simp; done) | (simp; omega) | omega)) | (with_reducible apply Below.drew) | (with_reducible apply below_drewN') | (refine Below.trans ?_ (Below.mono (by assumption) (by first | exact Nat.le_refl _ | (simp; done) | (simp; omega) | omega))) | exact Below.refl _ _ | assumption))
        case ca7R238 => (first | (simp [Act.put]; done) | (simp [Act.put, *]; done))
        try dsimp only
        refine wpWI_det (t' := ?ct8R238) (l := [12, 11, 10, 9, 8, 7, 6, 5, 4, 3, 2, 1, 0]) 8 (by kernel_rfl) (by decide) (by rfl) (by kernel_rfl) (NQ_free _) (by kernel_rfl) ?cw8R238 ?ch8R238 ?ca8R238 (Eq.refl _) ?cH8R238
        case cw8R238 => (go_simp; done)
        case ch8R238 =>
          intro ds w' hS K hK
          have hc := (bcell hS).1
          have hf := (bcell hS).2
          have hz := hS.size
          try simp at hz
          go_simp
          try go_bits
          first
            | exact hK _ hS (Gr.refl _)
            | exact hK _ (by repeat (first | (with_reducible exact Below.refl _ _) | (with_reducible assumption) | ((with_reducible refine Below.setCell ?_ ?_ _); rotate_left; · (first | exact Nat.le_refl _ | (simp; done) | (simp; omega) | omega)) | ((with_reducible refine Below.alloc ?_ ?_ _); rotate_left; · (first | exact Nat.le_refl _ | (simp; done) | (simp; omega) | omega)) | (with_reducible apply Below.drew) | (with_reducible apply below_drewN') | (refine Below.trans ?_ (Below.mono (by assumption) (by first | exact Nat.le_refl _ | (simp; done) | (simp; omega) | omega))) | exact Below.refl _ _ | assumption)) (by repeat (first | (with_reducible exact Below.refl _ _) | (with_reducible assumption) | ((with_reducible refine Below.setCell ?_ ?_ _); rotate_left; · (first | exact Nat.le_refl _ | (simp; done) | (simp; omega) | omega)) | ((with_reducible refine Below.alloc ?_ ?_ _); rotate_left; · (first | exact Nat.le_refl _ | (simp; done) | (simp; omega) | omega)) | (with_reducible apply Below.drew) | (with_reducible apply below_drewN') | (refine Below.trans ?_ (Below.mono (by assumption) (by first | exact Nat.le_refl _ | (simp; done) | (simp; omega) | omega))) | exact Below.refl _ _ | assumption))
        case ca8R238 => (first | (simp [Act.put]; done) | (simp [Act.put, *]; done))
        try dsimp only
        refine wpWI_det (t' := ?ct9R238) (l := [12, 11, 10, 9, 8, 7, 6, 5, 4, 3, 2, 1, 0]) 9 (by kernel_rfl) (by decide) (by rfl) (by kernel_rfl) (NQ_free _) (by kernel_rfl) ?cw9R238 ?ch9R238 ?ca9R238 (Eq.refl _) ?cH9R238
        case cw9R238 => (go_simp; done)
        case ch9R238 =>
          intro ds w' hS K hK
          have hc := (bcell hS).1
          have hf := (bcell hS).2
          have hz := hS.size
          try simp at hz
          go_simp
          try go_bits
          first
            | exact hK _ hS (Gr.refl _)
            | exact hK _ (by repeat (first | (with_reducible exact Below.refl _ _) | (with_reducible assumption) | ((with_reducible refine Below.setCell ?_ ?_ _); rotate_left; · (first | exact Nat.le_refl _ | (simp; done) | (simp; omega) | omega)) | ((with_reducible refine Below.alloc ?_ ?_ _); rotate_left; · (first | exact Nat.le_refl _ | (simp; done) | (simp; omega) | omega)) | (with_reducible apply Below.drew) | (with_reducible apply below_drewN') | (refine Below.trans ?_ (Below.mono (by assumption) (by first | exact Nat.le_refl _ | (simp; done) | (simp; omega) | omega))) | exact Below.refl _ _ | assumption)) (by repeat (first | (with_reducible exact Below.refl _ _) | (with_reducible assumption) | ((with_reducible refine Below.setCell ?_ ?_ _); rotate_left; · (first | exact Nat.le_refl _ | (simp; done) | (simp; omega) | omega)) | ((with_reducible refine Below.alloc ?_ ?_ _); rotate_left; · (first | exact Nat.le_refl _ | (simp; done) | (simp; omega) | omega)) | (with_reducible apply Below.drew) | (with_reducible apply below_drewN') | (refine Below.trans ?_ (Below.mono (by assumption) (by first | exact Nat.le_refl _ | (simp; done) | (simp; omega) | omega))) | exact Below.refl _ _ | assumption))
        case ca9R238 => (first | (simp [Act.put]; done) | (simp [Act.put, *]; done))
        try dsimp only
        refine wpWI_det (t' := ?ct10R238) (l := [12, 11, 10, 9, 8, 7, 6, 5, 4, 3, 2, 1, 0]) 10 (by kernel_rfl) (by decide) (by rfl) (by kernel_rfl) (NQ_free _) (by kernel_rfl) ?cw10R238 ?ch10R238 ?ca10R238 (Eq.refl _) ?cH10R238
        case cw10R238 => (go_simp; done)
        case ch10R238 =>
          intro ds w' hS K hK
          have hc := (bcell hS).1
          have hf := (bcell hS).2
          have hz := hS.size
          try simp at hz
          go_simp
          try go_bits
          first
            | exact hK _ hS (Gr.refl _)
            | exact hK _ (by repeat (first | (with_reducible exact Below.refl _ _) | (with_reducible assumption) | ((with_reducible refine Below.setCell ?_ ?_ _); rotate_left; · (first | exact Nat.le_refl _ | (simp; done) | (simp; omega) | omega)) | ((with_reducible refine Below.alloc ?_ ?_ _); rotate_left; · (first | exact Nat.le_refl _ | (simp; done) | (simp; omega) | omega)) | (with_reducible apply Below.drew) | (with_reducible apply below_drewN') | (refine Below.trans ?_ (Below.mono (by assumption) (by first | exact Nat.le_refl _ | (simp; done) | (simp; omega) | omega))) | exact Below.refl _ _ | assumption)) (by repeat (first | (with_reducible exact Below.refl _ _) | (with_reducible assumption) | ((with_reducible refine Below.setCell ?_ ?_ _); rotate_left; · (first | exact Nat.le_refl _ | (simp; done) | (simp; omega) | omega)) | ((with_reducible refine Below.alloc ?_ ?_ _); rotate_left; · (first | exact Nat.le_refl _ | (simp; done) | (simp; omega) | omega)) | (with_reducible apply Below.drew) | (with_reducible apply below_drewN') | (refine Below.trans ?_ (Below.mono (by assumption) (by first | exact Nat.le_refl _ | (simp; done) | (simp; omega) | omega))) | exact Below.refl _ _ | assumption))
        case ca10R238 => (first | (simp [Act.put]; done) | (simp [Act.put, *]; done))
        try dsimp only
        refine wpWI_det (t' := ?ct11R238) (l := [12, 11, 10, 9, 8, 7, 6, 5, 4, 3, 2, 1, 0]) 11 (by kernel_rfl) (by decide) (by rfl) (by kernel_rfl) (NQ_free _) (by kernel_rfl) ?cw11R238 ?ch11R238 ?ca11R238 (Eq.refl _) ?cH11R238
        case cw11R238 => (go_simp; done)
        case ch11R238 =>
          intro ds w' hS K hK
          have hc := (bcell hS).1
          have hf := (bcell hS).2
          have hz := hS.size
          try simp at hz
          go_simp
          try go_bits
          first
            | exact hK _ hS (Gr.refl _)
            | exact hK _ (by repeat (first | (with_reducible exact Below.refl _ _) | (with_reducible assumption) | ((with_reducible refine Below.setCell ?_ ?_ _); rotate_left; · (first | exact Nat.le_refl _ | (simp; done) | (simp; omega) | omega)) | ((with_reducible refine Below.alloc ?_ ?_ _); rotate_left; · (first | exact Nat.le_refl _ | (simp; done) | (simp; omega) | omega)) | (with_reducible apply Below.drew) | (with_reducible apply below_drewN') | (refine Below.trans ?_ (Below.mono (by assumption) (by first | exact Nat.le_refl _ | (simp; done) | (simp; omega) | omega))) | exact Below.refl _ _ | assumption)) (by repeat (first | (with_reducible exact Below.refl _ _) | (with_reducible assumption) | ((with_reducible refine Below.setCell ?_ ?_ _); rotate_left; · (first | exact Nat.le_refl _ | (simp; done) | (simp; omega) | omega)) | ((with_reducible refine Below.alloc ?_ ?_ _); rotate_left; · (first | exact Nat.le_refl _ | (simp; done) | (simp; omega) | omega)) | (with_reducible apply Below.drew) | (with_reducible apply below_drewN') | (refine Below.trans ?_ (Below.mono (by assumption) (by first | exact Nat.le_refl _ | (simp; done) | (simp; omega) | omega))) | exact Below.refl _ _ | assumption))
        case ca11R238 => (first | (simp [Act.put]; done) | (simp [Act.put, *]; done))
        try dsimp only
        refine wpWI_det (t' := ?ct12R238) (l := [12, 11, 10, 9, 8, 7, 6, 5, 4, 3, 2, 1, 0]) 12 (by kernel_rfl) (by decide) (by rfl) (by kernel_rfl) (NQ_free _) (by kernel_rfl) ?cw12R238 ?ch12R238 ?ca12R238 (Eq.refl _) ?cH12R238
        case cw12R238 => (go_simp; done)
        case ch12R238 =>
          intro ds w' hS K hK
          have hc := (bcell hS).1
          have hf := (bcell hS).2
          have hz := hS.size
          try simp at hz
          go_simp
          try go_bits
          first
            | exact hK _ hS (Gr.refl _)
            | exact hK _ (by repeat (first | (with_reducible exact Below.refl _ _) | (with_reducible assumption) | ((with_reducible refine Below.setCell ?_ ?_ _); rotate_left; · (first | exact Nat.le_refl _ | (simp; done) | (simp; omega) | omega)) | ((with_reducible refine Below.alloc ?_ ?_ _); rotate_left; · (first | exact Nat.le_refl _ | (simp; done) | (simp; omega) | omega)) | (with_reducible apply Below.drew) | (with_reducible apply below_drewN') | (refine Below.trans ?_ (Below.mono (by assumption) (by first | exact Nat.le_refl _ | (simp; done) | (simp; omega) | omega))) | exact Below.refl _ _ | assumption)) (by repeat (first | (with_reducible exact Below.refl _ _) | (with_reducible assumption) | ((with_reducible refine Below.setCell ?_ ?_ _); rotate_left; · (first | exact Nat.le_refl _ | (simp; done) | (simp; omega) | omega)) | ((with_reducible refine Below.alloc ?_ ?_ _); rotate_left; · (first | exact Nat.le_refl _ | (simp; done) | (simp; omega) | omega)) | (with_reducible apply Below.drew) | (with_reducible apply below_drewN') | (refine Below.trans ?_ (Below.mono (by assumption) (by first | exact Nat.le_refl _ | (simp; done) | (simp; omega) | omega))) | exact Below.refl _ _ | assumption))
        case ca12R238 => (first | (simp [Act.put]; done) | (simp [Act.put, *]; done))
        try dsimp only
        refine wpWI_stop (by kernel_rfl) ?_
        intro wI hgI hSI
        have hgW : Gr wr wI := Gr.trans HGB.out hSI
        clear e0 e1 e2 e3 e4 e5 e6 lb5 f0 f1 f2 f3 lm lq li y0 y1 y2 y3 y4 y5 lg0 hgI hSI
        refine wpAnyIn_ready (rs := [13]) (by kernel_rfl) (by simp) (AllReadyIn.cons (by rfl) ?_ AllReadyIn.nil)
        intro K hK
        go_simp
        refine ⟨trivial, ?_⟩
        refine (callsIn_wide.2 (alike_any y x slack HSY.out HSX.out _)).mono ?_
        rw [HA.out]
        rintro e W1 ⟨rfl, hB1⟩
        have hG1 := Gr.trans hgW hB1
        dsimp only
        refine hK _ _ ?_
        clear hK K hB1 hgW
        refine wpAnyIn_ready (rs := [14]) (by kernel_rfl) (by simp) (AllReadyIn.cons (by rfl) ?_ AllReadyIn.nil)
        intro K hK
        go_simp
        try simp only [Act.put]
        refine hK _ _ ?_
        clear hK K
        refine wpAnyIn_ready (rs := [15, 16]) (by kernel_rfl) (by simp) (AllReadyIn.cons (by rfl) ?_ (AllReadyIn.cons (by rfl) ?_ AllReadyIn.nil))
        · intro K hK
          go_simp
          try simp only [Act.put]
          refine hK _ _ ?_
          clear hK K
          refine wpAnyIn_ready (rs := [16]) (by kernel_rfl) (by simp) (AllReadyIn.cons (by rfl) ?_ AllReadyIn.nil)
          intro K hK
          go_simp
          try simp only [Act.put]
          refine hK _ _ ?_
          clear hK K
          refine wpAnyIn_ready (rs := [17]) (by kernel_rfl) (by simp) (AllReadyIn.cons (by rfl) ?_ AllReadyIn.nil)
          intro K hK
          go_simp
          try simp only [Act.put]
          refine ⟨fun _ _ => trivial, hK _ _ ?_⟩
          clear hK K
          refine wpAnyIn_ready (rs := [18]) (by kernel_rfl) (by simp) (AllReadyIn.cons (by rfl) ?_ AllReadyIn.nil)
          intro K hK
          go_simp
          try simp only [Act.put]
          refine hK _ _ ?_
          clear hK K
          refine wpAnyIn_ready (rs := [19]) (by kernel_rfl) (by simp) (AllReadyIn.cons (by rfl) ?_ AllReadyIn.nil)
          intro K hK
          go_simp
          try simp only [Act.put]
          refine hK _ _ ?_
          clear hK K
          refine wpAnyIn_done (by kernel_rfl) ?_ _
          unfold NQ
          dsimp only
          gi_wp2
          go_roundw
          case rel => exact ⟨k + 1, pre, by omega, by go_num, HP, hJ _ _ _ HJ.out hG1, HM.out.gr hG1⟩
          case measure => (first | (simp [intOf]; done) | (simp [intOf]; omega))
        · intro K hK
          go_simp
          try simp only [Act.put]
          refine hK _ _ ?_
          clear hK K
          refine wpAnyIn_ready (rs := [15]) (by kernel_rfl) (by simp) (AllReadyIn.cons (by rfl) ?_ AllReadyIn.nil)
          intro K hK
          go_simp
          try simp only [Act.put]
          refine hK _ _ ?_
          clear hK K
          refine wpAnyIn_ready (rs := [17]) (by kernel_rfl) (by simp) (AllReadyIn.cons (by rfl) ?_ AllReadyIn.nil)
          intro K hK
          go_simp
          try simp only [Act.put]
          refine ⟨fun _ _ => trivial, hK _ _ ?_⟩
          clear hK K
          refine wpAnyIn_ready (rs := [18]) (by kernel_rfl) (by simp) (AllReadyIn.cons (by rfl) ?_ AllReadyIn.nil)
          intro K hK
          go_simp
          try simp only [Act.put]
          refine hK _ _ ?_
          clear hK K
          refine wpAnyIn_ready (rs := [19]) (by kernel_rfl) (by simp) (AllReadyIn.cons (by rfl) ?_ AllReadyIn.nil)
          intro K hK
          go_simp
          try simp only [Act.put]
          refine hK _ _ ?_
          clear hK K
          refine wpAnyIn_done (by kernel_rfl) ?_ _
          unfold NQ
          dsimp only
          gi_wp2
          go_roundw
          case rel => exact ⟨k + 1, pre, by omega, by go_num, HP, hJ _ _ _ HJ.out hG1, HM.out.gr hG1⟩
          case measure => (first | (simp [intOf]; done) | (simp [intOf]; omega))
      · rw [hRk] at hR
        have HA : Hid (alikeV y x slack = true) := Lib.hid hR.symm
        have HP : Hid ((pre ++ [(⟨k, hlt, hRk⟩ : LikeK (likeR l0 l1 i slack) l1.length)]).map (·.1) = likeV (likeR l0 l1 i slack) (k + 1)) := Lib.hid (by rw [HST.out, if_pos hRk, List.map_append, hp.out]; rfl)
        have HF : Hid ((pre ++ [(⟨k, hlt, hRk⟩ : LikeK (likeR l0 l1 i slack) l1.length)]).map (·.1) <+: likeV (likeR l0 l1 i slack) l1.length) := Lib.hid (by rw [HP.out]; exact likeV_prefix _ (by omega))
        clear hR HST
        gi_wp2_with fail
        have b5 := Blk.new wr 79 #[.string x.nm, .int .i64 x.al, .int .i64 x.ah, .int .i64 x.dl, .int .i64 x.dh, .int .i64 x.lv]
        have hgB : Gr wr (wr.alloc (.cells #[.string x.nm, .int .i64 x.al, .int .i64 x.ah, .int .i64 x.dl, .int .i64 x.dh, .int .i64 x.lv] 79)) := (Below.refl _ _).alloc (Nat.le_refl _) _
        obtain ⟨e0, e1, e2, e3, e4, e5, e6⟩ := blk6 b5
        have lb5 := b5.lt
        have MB := HM.out.gr hgB
        have f0 := MB.cm; have f1 := MB.q0; have f2 := MB.ci; have f3 := MB.q2; have lm := MB.ltm; have lq := MB.ltq; have li := MB.lti
        obtain ⟨_, _, hA0', _, y0, y1, y2, y3, y4, y5⟩ := mkCells MB.r0 hi
        simp only [Option.some.injEq, Addr.mk.injEq, and_true] at hA0'
        obtain ⟨rfl, rfl⟩ := hA0'
        rw [hy] at y0 y1 y2 y3 y4 y5
        have lg0 := Nat.lt_of_lt_of_le lg0 (Below.size hgB)
        obtain ⟨WB, hWB⟩ : ∃ WB, wr.alloc (.cells #[.string x.nm, .int .i64 x.al, .int .i64 x.ah, .int .i64 x.dl, .int .i64 x.dh, .int .i64 x.lv] 79) = WB := ⟨_, rfl⟩
        rw [hWB] at b5 hgB e0 e1 e2 e3 e4 e5 e6 lb5 MB f0 f1 f2 f3 lm lq li y0 y1 y2 y3 y4 y5 lg0 ⊢
        have HGB := Lib.hid hgB
        clear hWB b5 MB hgB
        refine wpIn_region_w 13 (Gr _) (by kernel_rfl) (Below.refl _ _).drew ?_
        refine wpWI_det (t' := ?ct0R239) (l := [12, 11, 10, 9, 8, 7, 6, 5, 4, 3, 2, 1, 0]) 0 (by kernel_rfl) (by decide) (by rfl) (by kernel_rfl) (NQ_free _) (by kernel_rfl) ?cw0R239 ?ch0R239 ?ca0R239 (Eq.refl _) ?cH0R239
        case cw0R239 => (go_simp; done)
        case ch0R239 =>
          intro ds w' hS K hK
          have hc := (bcell hS).1
          have hf := (bcell hS).2
          have hz := hS.size
          try simp at hz
          go_simp
          try go_bits
          first
            | exact hK _ hS (Gr.refl _)
            | exact hK _ (by repeat (first | (with_reducible exact Below.refl _ _) | (with_reducible assumption) | ((with_reducible refine Below.setCell ?_ ?_ _); rotate_left; · (first | exact Nat.le_refl _ | (simp; done) | (simp; omega) | omega)) | ((with_reducible refine Below.alloc ?_ ?_ _); rotate_left; · (first | exact Nat.le_refl _ | (simp; done) | (simp; omega) | omega)) | (with_reducible apply Below.drew) | (with_reducible apply below_drewN') | (refine Below.trans ?_ (Below.mono (by assumption) (by first | exact Nat.le_refl _ | (simp; done) | (simp; omega) | omega))) | exact Below.refl _ _ | assumption)) (by repeat (first | (with_reducible exact Below.refl _ _) | (with_reducible assumption) | ((with_reducible refine Below.setCell ?_ ?_ _); rotate_left; · (first | exact Nat.le_refl _ | (simp; done) | (simp; omega) | omega)) | ((with_reducible refine Below.alloc ?_ ?_ _); rotate_left; · (first | exact Nat.le_refl _ | (simp; done) | (simp; omega) | omega)) | (with_reducible apply Below.drew) | (with_reducible apply below_drewN') | (refine Below.trans ?_ (Below.mono (by assumption) (by first | exact Nat.le_refl _ | (simp; done) | (simp; omega) | omega))) | exact Below.refl _ _ | assumption))
        case ca0R239 => (first | (simp [Act.put]; done) | (simp [Act.put, *]; done))
        try dsimp only
        refine wpWI_det (t' := ?ct1R239) (l := [12, 11, 10, 9, 8, 7, 6, 5, 4, 3, 2, 1, 0]) 1 (by kernel_rfl) (by decide) (by rfl) (by kernel_rfl) (NQ_free _) (by kernel_rfl) ?cw1R239 ?ch1R239 ?ca1R239 (Eq.refl _) ?cH1R239
        case cw1R239 => (go_simp; done)
        case ch1R239 =>
          intro ds w' hS K hK
          have hc := (bcell hS).1
          have hf := (bcell hS).2
          have hz := hS.size
          try simp at hz
          go_simp
          try go_bits
          first
            | exact hK _ hS (Gr.refl _)
            | exact hK _ (by repeat (first | (with_reducible exact Below.refl _ _) | (with_reducible assumption) | ((with_reducible refine Below.setCell ?_ ?_ _); rotate_left; · (first | exact Nat.le_refl _ | (simp; done) | (simp; omega) | omega)) | ((with_reducible refine Below.alloc ?_ ?_ _); rotate_left; · (first | exact Nat.le_refl _ | (simp; done) | (simp; omega) | omega)) | (with_reducible apply Below.drew) | (with_reducible apply below_drewN') | (refine Below.trans ?_ (Below.mono (by assumption) (by first | exact Nat.le_refl _ | (simp; done) | (simp; omega) | omega))) | exact Below.refl _ _ | assumption)) (by repeat (first | (with_reducible exact Below.refl _ _) | (with_reducible assumption) | ((with_reducible refine Below.setCell ?_ ?_ _); rotate_left; · (first | exact Nat.le_refl _ | (simp; done) | (simp; omega) | omega)) | ((with_reducible refine Below.alloc ?_ ?_ _); rotate_left; · (first | exact Nat.le_refl _ | (simp; done) | (simp; omega) | omega)) | (with_reducible apply Below.drew) | (with_reducible apply below_drewN') | (refine Below.trans ?_ (Below.mono (by assumption) (by first | exact Nat.le_refl _ | (simp; done) | (simp; omega) | omega))) | exact Below.refl _ _ | assumption))
        case ca1R239 => (first | (simp [Act.put]; done) | (simp [Act.put, *]; done))
        try dsimp only
        refine wpWI_det (t' := ?ct2R239) (l := [12, 11, 10, 9, 8, 7, 6, 5, 4, 3, 2, 1, 0]) 2 (by kernel_rfl) (by decide) (by rfl) (by kernel_rfl) (NQ_free _) (by kernel_rfl) ?cw2R239 ?ch2R239 ?ca2R239 (Eq.refl _) ?cH2R239
        case cw2R239 => (go_simp; done)
        case ch2R239 =>
          intro ds w' hS K hK
          have hc := (bcell hS).1
          have hf := (bcell hS).2
          have hz := hS.size
          try simp at hz
          go_simp
          try go_bits
          first
            | exact hK _ hS (Gr.refl _)
            | exact hK _ (by repeat (first | (with_reducible exact Below.refl _ _) | (with_reducible assumption) | ((with_reducible refine Below.setCell ?_ ?_ _); rotate_left; · (first | exact Nat.le_refl _ | (simp; done) | (simp; omega) | omega)) | ((with_reducible refine Below.alloc ?_ ?_ _); rotate_left; · (first | exact Nat.le_refl _ | (simp; done) | (simp; omega) | omega)) | (with_reducible apply Below.drew) | (with_reducible apply below_drewN') | (refine Below.trans ?_ (Below.mono (by assumption) (by first | exact Nat.le_refl _ | (simp; done) | (simp; omega) | omega))) | exact Below.refl _ _ | assumption)) (by repeat (first | (with_reducible exact Below.refl _ _) | (with_reducible assumption) | ((with_reducible refine Below.setCell ?_ ?_ _); rotate_left; · (first | exact Nat.le_refl _ | (simp; done) | (simp; omega) | omega)) | ((with_reducible refine Below.alloc ?_ ?_ _); rotate_left; · (first | exact Nat.le_refl _ | (simp; done) | (simp; omega) | omega)) | (with_reducible apply Below.drew) | (with_reducible apply below_drewN') | (refine Below.trans ?_ (Below.mono (by assumption) (by first | exact Nat.le_refl _ | (simp; done) | (simp; omega) | omega))) | exact Below.refl _ _ | assumption))
        case ca2R239 => (first | (simp [Act.put]; done) | (simp [Act.put, *]; done))
        try dsimp only
        refine wpWI_det (t' := ?ct3R239) (l := [12, 11, 10, 9, 8, 7, 6, 5, 4, 3, 2, 1, 0]) 3 (by kernel_rfl) (by decide) (by rfl) (by kernel_rfl) (NQ_free _) (by kernel_rfl) ?cw3R239 ?ch3R239 ?ca3R239 (Eq.refl _) ?cH3R239
        case cw3R239 => (go_simp; done)
        case ch3R239 =>
          intro ds w' hS K hK
          have hc := (bcell hS).1
          have hf := (bcell hS).2
          have hz := hS.size
          try simp at hz
          go_simp
          try go_bits
          first
            | exact hK _ hS (Gr.refl _)
            | exact hK _ (by repeat (first | (with_reducible exact Below.refl _ _) | (with_reducible assumption) | ((with_reducible refine Below.setCell ?_ ?_ _); rotate_left; · (first | exact Nat.le_refl _ | (simp; done) | (simp; omega) | omega)) | ((with_reducible refine Below.alloc ?_ ?_ _); rotate_left; · (first | exact Nat.le_refl _ | (simp; done) | (simp; omega) | omega)) | (with_reducible apply Below.drew) | (with_reducible apply below_drewN') | (refine Below.trans ?_ (Below.mono (by assumption) (by first | exact Nat.le_refl _ | (simp; done) | (simp; omega) | omega))) | exact Below.refl _ _ | assumption)) (by repeat (first | (with_reducible exact Below.refl _ _) | (with_reducible assumption) | ((with_reducible refine Below.setCell ?_ ?_ _); rotate_left; · (first | exact Nat.le_refl _ | (simp; done) | (simp; omega) | omega)) | ((with_reducible refine Below.alloc ?_ ?_ _); rotate_left; · (first | exact Nat.le_refl _ | (simp; done) | (simp; omega) | omega)) | (with_reducible apply Below.drew) | (with_reducible apply below_drewN') | (refine Below.trans ?_ (Below.mono (by assumption) (by first | exact Nat.le_refl _ | (simp; done) | (simp; omega) | omega))) | exact Below.refl _ _ | assumption))
        case ca3R239 => (first | (simp [Act.put]; done) | (simp [Act.put, *]; done))
        try dsimp only
        refine wpWI_det (t' := ?ct4R239) (l := [12, 11, 10, 9, 8, 7, 6, 5, 4, 3, 2, 1, 0]) 4 (by kernel_rfl) (by decide) (by rfl) (by kernel_rfl) (NQ_free _) (by kernel_rfl) ?cw4R239 ?ch4R239 ?ca4R239 (Eq.refl _) ?cH4R239
        case cw4R239 => (go_simp; done)
        case ch4R239 =>
          intro ds w' hS K hK
          have hc := (bcell hS).1
          have hf := (bcell hS).2
          have hz := hS.size
          try simp at hz
          go_simp
          try go_bits
          first
            | exact hK _ hS (Gr.refl _)
            | exact hK _ (by repeat (first | (with_reducible exact Below.refl _ _) | (with_reducible assumption) | ((with_reducible refine Below.setCell ?_ ?_ _); rotate_left; · (first | exact Nat.le_refl _ | (simp; done) | (simp; omega) | omega)) | ((with_reducible refine Below.alloc ?_ ?_ _); rotate_left; · (first | exact Nat.le_refl _ | (simp; done) | (simp; omega) | omega)) | (with_reducible apply Below.drew) | (with_reducible apply below_drewN') | (refine Below.trans ?_ (Below.mono (by assumption) (by first | exact Nat.le_refl _ | (simp; done) | (simp; omega) | omega))) | exact Below.refl _ _ | assumption)) (by repeat (first | (with_reducible exact Below.refl _ _) | (with_reducible assumption) | ((with_reducible refine Below.setCell ?_ ?_ _); rotate_left; · (first | exact Nat.le_refl _ | (simp; done) | (simp; omega) | omega)) | ((with_reducible refine Below.alloc ?_ ?_ _); rotate_left; · (first | exact Nat.le_refl _ | (simp; done) | (simp; omega) | omega)) | (with_reducible apply Below.drew) | (with_reducible apply below_drewN') | (refine Below.trans ?_ (Below.mono (by assumption) (by first | exact Nat.le_refl _ | (simp; done) | (simp; omega) | omega))) | exact Below.refl _ _ | assumption))
        case ca4R239 => (first | (simp [Act.put]; done) | (simp [Act.put, *]; done))
        try dsimp only
        refine wpWI_det (t' := ?ct5R239) (l := [12, 11, 10, 9, 8, 7, 6, 5, 4, 3, 2, 1, 0]) 5 (by kernel_rfl) (by decide) (by rfl) (by kernel_rfl) (NQ_free _) (by kernel_rfl) ?cw5R239 ?ch5R239 ?ca5R239 (Eq.refl _) ?cH5R239
        case cw5R239 => (go_simp; done)
        case ch5R239 =>
          intro ds w' hS K hK
          have hc := (bcell hS).1
          have hf := (bcell hS).2
          have hz := hS.size
          try simp at hz
          go_simp
          try go_bits
          first
            | exact hK _ hS (Gr.refl _)
            | exact hK _ (by repeat (first | (with_reducible exact Below.refl _ _) | (with_reducible assumption) | ((with_reducible refine Below.setCell ?_ ?_ _); rotate_left; · (first | exact Nat.le_refl _ | (simp; done) | (simp; omega) | omega)) | ((with_reducible refine Below.alloc ?_ ?_ _); rotate_left; · (first | exact Nat.le_refl _ | (simp; done) | (simp; omega) | omega)) | (with_reducible apply Below.drew) | (with_reducible apply below_drewN') | (refine Below.trans ?_ (Below.mono (by assumption) (by first | exact Nat.le_refl _ | (simp; done) | (simp; omega) | omega))) | exact Below.refl _ _ | assumption)) (by repeat (first | (with_reducible exact Below.refl _ _) | (with_reducible assumption) | ((with_reducible refine Below.setCell ?_ ?_ _); rotate_left; · (first | exact Nat.le_refl _ | (simp; done) | (simp; omega) | omega)) | ((with_reducible refine Below.alloc ?_ ?_ _); rotate_left; · (first | exact Nat.le_refl _ | (simp; done) | (simp; omega) | omega)) | (with_reducible apply Below.drew) | (with_reducible apply below_drewN') | (refine Below.trans ?_ (Below.mono (by assumption) (by first | exact Nat.le_refl _ | (simp; done) | (simp; omega) | omega))) | exact Below.refl _ _ | assumption))
        case ca5R239 => (first | (simp [Act.put]; done) | (simp [Act.put, *]; done))
        try dsimp only
        refine wpWI_det (t' := ?ct6R239) (l := [12, 11, 10, 9, 8, 7, 6, 5, 4, 3, 2, 1, 0]) 6 (by kernel_rfl) (by decide) (by rfl) (by kernel_rfl) (NQ_free _) (by kernel_rfl) ?cw6R239 ?ch6R239 ?ca6R239 (Eq.refl _) ?cH6R239
        case cw6R239 => (go_simp; done)
        case ch6R239 =>
          intro ds w' hS K hK
          have hc := (bcell hS).1
          have hf := (bcell hS).2
          have hz := hS.size
          try simp at hz
          go_simp
          try go_bits
          first
            | exact hK _ hS (Gr.refl _)
            | exact hK _ (by repeat (first | (with_reducible exact Below.refl _ _) | (with_reducible assumption) | ((with_reducible refine Below.setCell ?_ ?_ _); rotate_left; · (first | exact Nat.le_refl _ | (simp; done) | (simp; omega) | omega)) | ((with_reducible refine Below.alloc ?_ ?_ _); rotate_left; · (first | exact Nat.le_refl _ | (simp; done) | (simp; omega) | omega)) | (with_reducible apply Below.drew) | (with_reducible apply below_drewN') | (refine Below.trans ?_ (Below.mono (by assumption) (by first | exact Nat.le_refl _ | (simp; done) | (simp; omega) | omega))) | exact Below.refl _ _ | assumption)) (by repeat (first | (with_reducible exact Below.refl _ _) | (with_reducible assumption) | ((with_reducible refine Below.setCell ?_ ?_ _); rotate_left; · (first | exact Nat.le_refl _ | (simp; done) | (simp; omega) | omega)) | ((with_reducible refine Below.alloc ?_ ?_ _); rotate_left; · (first | exact Nat.le_refl _ | (simp; done) | (simp; omega) | omega)) | (with_reducible apply Below.drew) | (with_reducible apply below_drewN') | (refine Below.trans ?_ (Below.mono (by assumption) (by first | exact Nat.le_refl _ | (simp; done) | (simp; omega) | omega))) | exact Below.refl _ _ | assumption))
        case ca6R239 => (first | (simp [Act.put]; done) | (simp [Act.put, *]; done))
        try dsimp only
        refine wpWI_det (t' := ?ct7R239) (l := [12, 11, 10, 9, 8, 7, 6, 5, 4, 3, 2, 1, 0]) 7 (by kernel_rfl) (by decide) (by rfl) (by kernel_rfl) (NQ_free _) (by kernel_rfl) ?cw7R239 ?ch7R239 ?ca7R239 (Eq.refl _) ?cH7R239
        case cw7R239 => (go_simp; done)
        case ch7R239 =>
          intro ds w' hS K hK
          have hc := (bcell hS).1
          have hf := (bcell hS).2
          have hz := hS.size
          try simp at hz
          go_simp
          try go_bits
          first
            | exact hK _ hS (Gr.refl _)
            | exact hK _ (by repeat (first | (with_reducible exact Below.refl _ _) | (with_reducible assumption) | ((with_reducible refine Below.setCell ?_ ?_ _); rotate_left; · (first | exact Nat.le_refl _ | (simp; done) | (simp; omega) | omega)) | ((with_reducible refine Below.alloc ?_ ?_ _); rotate_left; · (first | exact Nat.le_refl _ | (simp; done) | (simp; omega) | omega)) | (with_reducible apply Below.drew) | (with_reducible apply below_drewN') | (refine Below.trans ?_ (Below.mono (by assumption) (by first | exact Nat.le_refl _ | (simp; done) | (simp; omega) | omega))) | exact Below.refl _ _ | assumption)) (by repeat (first | (with_reducible exact Below.refl _ _) | (with_reducible assumption) | ((with_reducible refine Below.setCell ?_ ?_ _); rotate_left; · (first | exact Nat.le_refl _ | (simp; done) | (simp; omega) | omega)) | ((with_reducible refine Below.alloc ?_ ?_ _); rotate_left; · (first | exact Nat.le_refl _ | (simp; done) | (simp; omega) | omega)) | (with_reducible apply Below.drew) | (with_reducible apply below_drewN') | (refine Below.trans ?_ (Below.mono (by assumption) (by first | exact Nat.le_refl _ | (simp; done) | (simp; omega) | omega))) | exact Below.refl _ _ | assumption))
        case ca7R239 => (first | (simp [Act.put]; done) | (simp [Act.put, *]; done))
        try dsimp only
        refine wpWI_det (t' := ?ct8R239) (l := [12, 11, 10, 9, 8, 7, 6, 5, 4, 3, 2, 1, 0]) 8 (by kernel_rfl) (by decide) (by rfl) (by kernel_rfl) (NQ_free _) (by kernel_rfl) ?cw8R239 ?ch8R239 ?ca8R239 (Eq.refl _) ?cH8R239
        case cw8R239 => (go_simp; done)
        case ch8R239 =>
          intro ds w' hS K hK
          have hc := (bcell hS).1
          have hf := (bcell hS).2
          have hz := hS.size
          try simp at hz
          go_simp
          try go_bits
          first
            | exact hK _ hS (Gr.refl _)
            | exact hK _ (by repeat (first | (with_reducible exact Below.refl _ _) | (with_reducible assumption) | ((with_reducible refine Below.setCell ?_ ?_ _); rotate_left; · (first | exact Nat.le_refl _ | (simp; done) | (simp; omega) | omega)) | ((with_reducible refine Below.alloc ?_ ?_ _); rotate_left; · (first | exact Nat.le_refl _ | (simp; done) | (simp; omega) | omega)) | (with_reducible apply Below.drew) | (with_reducible apply below_drewN') | (refine Below.trans ?_ (Below.mono (by assumption) (by first | exact Nat.le_refl _ | (simp; done) | (simp; omega) | omega))) | exact Below.refl _ _ | assumption)) (by repeat (first | (with_reducible exact Below.refl _ _) | (with_reducible assumption) | ((with_reducible refine Below.setCell ?_ ?_ _); rotate_left; · (first | exact Nat.le_refl _ | (simp; done) | (simp; omega) | omega)) | ((with_reducible refine Below.alloc ?_ ?_ _); rotate_left; · (first | exact Nat.le_refl _ | (simp; done) | (simp; omega) | omega)) | (with_reducible apply Below.drew) | (with_reducible apply below_drewN') | (refine Below.trans ?_ (Below.mono (by assumption) (by first | exact Nat.le_refl _ | (simp; done) | (simp; omega) | omega))) | exact Below.refl _ _ | assumption))
        case ca8R239 => (first | (simp [Act.put]; done) | (simp [Act.put, *]; done))
        try dsimp only
        refine wpWI_det (t' := ?ct9R239) (l := [12, 11, 10, 9, 8, 7, 6, 5, 4, 3, 2, 1, 0]) 9 (by kernel_rfl) (by decide) (by rfl) (by kernel_rfl) (NQ_free _) (by kernel_rfl) ?cw9R239 ?ch9R239 ?ca9R239 (Eq.refl _) ?cH9R239
        case cw9R239 => (go_simp; done)
        case ch9R239 =>
          intro ds w' hS K hK
          have hc := (bcell hS).1
          have hf := (bcell hS).2
          have hz := hS.size
          try simp at hz
          go_simp
          try go_bits
          first
            | exact hK _ hS (Gr.refl _)
            | exact hK _ (by repeat (first | (with_reducible exact Below.refl _ _) | (with_reducible assumption) | ((with_reducible refine Below.setCell ?_ ?_ _); rotate_left; · (first | exact Nat.le_refl _ | (simp; done) | (simp; omega) | omega)) | ((with_reducible refine Below.alloc ?_ ?_ _); rotate_left; · (first | exact Nat.le_refl _ | (simp; done) | (simp; omega) | omega)) | (with_reducible apply Below.drew) | (with_reducible apply below_drewN') | (refine Below.trans ?_ (Below.mono (by assumption) (by first | exact Nat.le_refl _ | (simp; done) | (simp; omega) | omega))) | exact Below.refl _ _ | assumption)) (by repeat (first | (with_reducible exact Below.refl _ _) | (with_reducible assumption) | ((with_reducible refine Below.setCell ?_ ?_ _); rotate_left; · (first | exact Nat.le_refl _ | (simp; done) | (simp; omega) | omega)) | ((with_reducible refine Below.alloc ?_ ?_ _); rotate_left; · (first | exact Nat.le_refl _ | (simp; done) | (simp; omega) | omega)) | (with_reducible apply Below.drew) | (with_reducible apply below_drewN') | (refine Below.trans ?_ (Below.mono (by assumption) (by first | exact Nat.le_refl _ | (simp; done) | (simp; omega) | omega))) | exact Below.refl _ _ | assumption))
        case ca9R239 => (first | (simp [Act.put]; done) | (simp [Act.put, *]; done))
        try dsimp only
        refine wpWI_det (t' := ?ct10R239) (l := [12, 11, 10, 9, 8, 7, 6, 5, 4, 3, 2, 1, 0]) 10 (by kernel_rfl) (by decide) (by rfl) (by kernel_rfl) (NQ_free _) (by kernel_rfl) ?cw10R239 ?ch10R239 ?ca10R239 (Eq.refl _) ?cH10R239
        case cw10R239 => (go_simp; done)
        case ch10R239 =>
          intro ds w' hS K hK
          have hc := (bcell hS).1
          have hf := (bcell hS).2
          have hz := hS.size
          try simp at hz
          go_simp
          try go_bits
          first
            | exact hK _ hS (Gr.refl _)
            | exact hK _ (by repeat (first | (with_reducible exact Below.refl _ _) | (with_reducible assumption) | ((with_reducible refine Below.setCell ?_ ?_ _); rotate_left; · (first | exact Nat.le_refl _ | (simp; done) | (simp; omega) | omega)) | ((with_reducible refine Below.alloc ?_ ?_ _); rotate_left; · (first | exact Nat.le_refl _ | (simp; done) | (simp; omega) | omega)) | (with_reducible apply Below.drew) | (with_reducible apply below_drewN') | (refine Below.trans ?_ (Below.mono (by assumption) (by first | exact Nat.le_refl _ | (simp; done) | (simp; omega) | omega))) | exact Below.refl _ _ | assumption)) (by repeat (first | (with_reducible exact Below.refl _ _) | (with_reducible assumption) | ((with_reducible refine Below.setCell ?_ ?_ _); rotate_left; · (first | exact Nat.le_refl _ | (simp; done) | (simp; omega) | omega)) | ((with_reducible refine Below.alloc ?_ ?_ _); rotate_left; · (first | exact Nat.le_refl _ | (simp; done) | (simp; omega) | omega)) | (with_reducible apply Below.drew) | (with_reducible apply below_drewN') | (refine Below.trans ?_ (Below.mono (by assumption) (by first | exact Nat.le_refl _ | (simp; done) | (simp; omega) | omega))) | exact Below.refl _ _ | assumption))
        case ca10R239 => (first | (simp [Act.put]; done) | (simp [Act.put, *]; done))
        try dsimp only
        refine wpWI_det (t' := ?ct11R239) (l := [12, 11, 10, 9, 8, 7, 6, 5, 4, 3, 2, 1, 0]) 11 (by kernel_rfl) (by decide) (by rfl) (by kernel_rfl) (NQ_free _) (by kernel_rfl) ?cw11R239 ?ch11R239 ?ca11R239 (Eq.refl _) ?cH11R239
        case cw11R239 => (go_simp; done)
        case ch11R239 =>
          intro ds w' hS K hK
          have hc := (bcell hS).1
          have hf := (bcell hS).2
          have hz := hS.size
          try simp at hz
          go_simp
          try go_bits
          first
            | exact hK _ hS (Gr.refl _)
            | exact hK _ (by repeat (first | (with_reducible exact Below.refl _ _) | (with_reducible assumption) | ((with_reducible refine Below.setCell ?_ ?_ _); rotate_left; · (first | exact Nat.le_refl _ | (simp; done) | (simp; omega) | omega)) | ((with_reducible refine Below.alloc ?_ ?_ _); rotate_left; · (first | exact Nat.le_refl _ | (simp; done) | (simp; omega) | omega)) | (with_reducible apply Below.drew) | (with_reducible apply below_drewN') | (refine Below.trans ?_ (Below.mono (by assumption) (by first | exact Nat.le_refl _ | (simp; done) | (simp; omega) | omega))) | exact Below.refl _ _ | assumption)) (by repeat (first | (with_reducible exact Below.refl _ _) | (with_reducible assumption) | ((with_reducible refine Below.setCell ?_ ?_ _); rotate_left; · (first | exact Nat.le_refl _ | (simp; done) | (simp; omega) | omega)) | ((with_reducible refine Below.alloc ?_ ?_ _); rotate_left; · (first | exact Nat.le_refl _ | (simp; done) | (simp; omega) | omega)) | (with_reducible apply Below.drew) | (with_reducible apply below_drewN') | (refine Below.trans ?_ (Below.mono (by assumption) (by first | exact Nat.le_refl _ | (simp; done) | (simp; omega) | omega))) | exact Below.refl _ _ | assumption))
        case ca11R239 => (first | (simp [Act.put]; done) | (simp [Act.put, *]; done))
        try dsimp only
        refine wpWI_det (t' := ?ct12R239) (l := [12, 11, 10, 9, 8, 7, 6, 5, 4, 3, 2, 1, 0]) 12 (by kernel_rfl) (by decide) (by rfl) (by kernel_rfl) (NQ_free _) (by kernel_rfl) ?cw12R239 ?ch12R239 ?ca12R239 (Eq.refl _) ?cH12R239
        case cw12R239 => (go_simp; done)
        case ch12R239 =>
          intro ds w' hS K hK
          have hc := (bcell hS).1
          have hf := (bcell hS).2
          have hz := hS.size
          try simp at hz
          go_simp
          try go_bits
          first
            | exact hK _ hS (Gr.refl _)
            | exact hK _ (by repeat (first | (with_reducible exact Below.refl _ _) | (with_reducible assumption) | ((with_reducible refine Below.setCell ?_ ?_ _); rotate_left; · (first | exact Nat.le_refl _ | (simp; done) | (simp; omega) | omega)) | ((with_reducible refine Below.alloc ?_ ?_ _); rotate_left; · (first | exact Nat.le_refl _ | (simp; done) | (simp; omega) | omega)) | (with_reducible apply Below.drew) | (with_reducible apply below_drewN') | (refine Below.trans ?_ (Below.mono (by assumption) (by first | exact Nat.le_refl _ | (simp; done) | (simp; omega) | omega))) | exact Below.refl _ _ | assumption)) (by repeat (first | (with_reducible exact Below.refl _ _) | (with_reducible assumption) | ((with_reducible refine Below.setCell ?_ ?_ _); rotate_left; · (first | exact Nat.le_refl _ | (simp; done) | (simp; omega) | omega)) | ((with_reducible refine Below.alloc ?_ ?_ _); rotate_left; · (first | exact Nat.le_refl _ | (simp; done) | (simp; omega) | omega)) | (with_reducible apply Below.drew) | (with_reducible apply below_drewN') | (refine Below.trans ?_ (Below.mono (by assumption) (by first | exact Nat.le_refl _ | (simp; done) | (simp; omega) | omega))) | exact Below.refl _ _ | assumption))
        case ca12R239 => (first | (simp [Act.put]; done) | (simp [Act.put, *]; done))
        try dsimp only
        refine wpWI_stop (by kernel_rfl) ?_
        intro wI hgI hSI
        have hgW : Gr wr wI := Gr.trans HGB.out hSI
        clear e0 e1 e2 e3 e4 e5 e6 lb5 f0 f1 f2 f3 lm lq li y0 y1 y2 y3 y4 y5 lg0 hgI hSI
        refine wpAnyIn_ready (rs := [13]) (by kernel_rfl) (by simp) (AllReadyIn.cons (by rfl) ?_ AllReadyIn.nil)
        intro K hK
        go_simp
        refine ⟨trivial, ?_⟩
        refine (callsIn_wide.2 (alike_any y x slack HSY.out HSX.out _)).mono ?_
        rw [HA.out]
        rintro e W1 ⟨rfl, hB1⟩
        have hG1 := Gr.trans hgW hB1
        dsimp only
        refine hK _ _ ?_
        clear hK K hB1 hgW
        refine wpAnyIn_ready (rs := [14]) (by kernel_rfl) (by simp) (AllReadyIn.cons (by rfl) ?_ AllReadyIn.nil)
        intro K hK
        go_simp
        try simp only [Act.put]
        refine hK _ _ ?_
        clear hK K
        refine wpAnyIn_ready (rs := [15, 16]) (by kernel_rfl) (by simp) (AllReadyIn.cons (by rfl) ?_ (AllReadyIn.cons (by rfl) ?_ AllReadyIn.nil))
        · intro K hK
          go_simp
          try simp only [Act.put]
          refine hK _ _ ?_
          clear hK K
          refine wpAnyIn_ready (rs := [16]) (by kernel_rfl) (by simp) (AllReadyIn.cons (by rfl) ?_ AllReadyIn.nil)
          intro K hK
          go_simp
          try simp only [Act.put]
          refine hK _ _ ?_
          clear hK K
          obtain ⟨fn, tmps, assign, body, hyy, hR2⟩ := hY pre ⟨k, hlt, hRk⟩ W1 (hJ _ _ _ HJ.out hG1) hlen
          dsimp only at hyy
          refine wpAnyIn_ready (rs := [17]) (by kernel_rfl) (by simp) (AllReadyIn.cons (by rfl) ?_ AllReadyIn.nil)
          intro K hK
          go_simp
          try simp only [Act.put]
          refine hR2.mono ?_
          rintro e W3 (⟨rfl, hJ3, hk3⟩ | ⟨rfl, hJx3⟩)
          · dsimp only
            refine hK _ _ ?_
            clear hK K
            refine wpAnyIn_ready (rs := [18]) (by kernel_rfl) (by simp) (AllReadyIn.cons (by rfl) ?_ AllReadyIn.nil)
            intro K hK
            go_simp
            try simp only [Act.put]
            refine hK _ _ ?_
            clear hK K
            refine wpAnyIn_ready (rs := [19]) (by kernel_rfl) (by simp) (AllReadyIn.cons (by rfl) ?_ AllReadyIn.nil)
            intro K hK
            go_simp
            try simp only [Act.put]
            refine hK _ _ ?_
            clear hK K
            refine wpAnyIn_done (by kernel_rfl) ?_ _
            unfold NQ
            dsimp only
            gi_wp2
            go_roundw
            case rel => exact ⟨k + 1, pre ++ [(⟨k, hlt, hRk⟩ : LikeK (likeR l0 l1 i slack) l1.length)], by omega, by go_num, HP, hJ3, (HM.out.gr hG1).kl hk3⟩
            case measure => (first | (simp [intOf]; done) | (simp [intOf]; omega))
          · dsimp only
            refine hK _ _ ?_
            clear hK K
            refine wpAnyIn_ready (rs := [18]) (by kernel_rfl) (by simp) (AllReadyIn.cons (by rfl) ?_ AllReadyIn.nil)
            intro K hK
            go_simp
            try simp only [Act.put]
            refine hK _ _ ?_
            clear hK K
            refine wpAnyIn_ready (rs := [19]) (by kernel_rfl) (by simp) (AllReadyIn.cons (by rfl) ?_ AllReadyIn.nil)
            intro K hK
            go_simp
            try simp only [Act.put]
            refine hK _ _ ?_
            clear hK K
            refine wpAnyIn_done (by kernel_rfl) ?_ _
            unfold NQ
            dsimp only
            gi_wp2
            refine bodyPost_ret (results_none rfl _ _ _) rfl ?_
            exact ⟨⟨_, rfl⟩, .inr ⟨_, HF.out, hJx3⟩⟩
        · intro K hK
          go_simp
          try simp only [Act.put]
          refine hK _ _ ?_
          clear hK K
          refine wpAnyIn_ready (rs := [15]) (by kernel_rfl) (by simp) (AllReadyIn.cons (by rfl) ?_ AllReadyIn.nil)
          intro K hK
          go_simp
          try simp only [Act.put]
          refine hK _ _ ?_
          clear hK K
          obtain ⟨fn, tmps, assign, body, hyy, hR2⟩ := hY pre ⟨k, hlt, hRk⟩ W1 (hJ _ _ _ HJ.out hG1) hlen
          dsimp only at hyy
          refine wpAnyIn_ready (rs := [17]) (by kernel_rfl) (by simp) (AllReadyIn.cons (by rfl) ?_ AllReadyIn.nil)
          intro K hK
          go_simp
          try simp only [Act.put]
          refine hR2.mono ?_
          rintro e W3 (⟨rfl, hJ3, hk3⟩ | ⟨rfl, hJx3⟩)
          · dsimp only
            refine hK _ _ ?_
            clear hK K
            refine wpAnyIn_ready (rs := [18]) (by kernel_rfl) (by simp) (AllReadyIn.cons (by rfl) ?_ AllReadyIn.nil)
            intro K hK
            go_simp
            try simp only [Act.put]
            refine hK _ _ ?_
            clear hK K
            refine wpAnyIn_ready (rs := [19]) (by kernel_rfl) (by simp) (AllReadyIn.cons (by rfl) ?_ AllReadyIn.nil)
            intro K hK
            go_simp
            try simp only [Act.put]
            refine hK _ _ ?_
            clear hK K
            refine wpAnyIn_done (by kernel_rfl) ?_ _
            unfold NQ
            dsimp only
            gi_wp2
            go_roundw
            case rel => exact ⟨k + 1, pre ++ [(⟨k, hlt, hRk⟩ : LikeK (likeR l0 l1 i slack) l1.length)], by omega, by go_num, HP, hJ3, (HM.out.gr hG1).kl hk3⟩
            case measure => (first | (simp [intOf]; done) | (simp [intOf]; omega))
          · dsimp only
            refine hK _ _ ?_
            clear hK K
            refine wpAnyIn_ready (rs := [18]) (by kernel_rfl) (by simp) (AllReadyIn.cons (by rfl) ?_ AllReadyIn.nil)
            intro K hK
            go_simp
            try simp only [Act.put]
            refine hK _ _ ?_
            clear hK K
            refine wpAnyIn_ready (rs := [19]) (by kernel_rfl) (by simp) (AllReadyIn.cons (by rfl) ?_ AllReadyIn.nil)
            intro K hK
            go_simp
            try simp only [Act.put]
            refine hK _ _ ?_
            clear hK K
            refine wpAnyIn_done (by kernel_rfl) ?_ _
            unfold NQ
            dsimp only
            gi_wp2
            refine bodyPost_ret (results_none rfl _ _ _) rfl ?_
            exact ⟨⟨_, rfl⟩, .inr ⟨_, HF.out, hJx3⟩⟩
    · obtain rfl : k = l1.length := by omega
      gi_wp2
      go_end0
      exact ⟨⟨_, rfl⟩, .inl ⟨pre, hp.out, hJw⟩⟩
end Go.Proofs.YtidgeagpgllkeaaGreat

namespace Go.Proofs.YtidgeagpgllkeaaGreat
open Go.RowKit

theorem MaM.ne0b {V W : World} {q p0 p1 n0 n1 : Nat} {a0 a1 : Value} {slack : Int} {F0 F1 : List Int} (h : MaM V q p0 p1 a0 a1 n0 n1 slack F0 F1 W) {z : Nat} {t : TypeId} {cs : Array Value} (b : Blk W z t cs) (ht : 3 ≠ t) : z ≠ p0 := fun e => own_blk_ne h.r0.own b ht (by rw [e]; rfl)
theorem MaM.ne1b {V W : World} {q p0 p1 n0 n1 : Nat} {a0 a1 : Value} {slack : Int} {F0 F1 : List Int} (h : MaM V q p0 p1 a0 a1 n0 n1 slack F0 F1 W) {z : Nat} {t : TypeId} {cs : Array Value} (b : Blk W z t cs) (ht : 3 ≠ t) : z ≠ p1 := fun e => own_blk_ne h.r1.own b ht (by rw [e]; rfl)

set_option maxRecDepth 100000 in
set_option maxHeartbeats 4000000 in
/-- Two marks become partners (region 13). -/
theorem pairReg13 {V W : World} {q p0 p1 z n0 n1 i k : Nat} {a0 a1 : Value} {slack f0 f1 : Int} {F0 F1 : List Int} (M : MaM V q p0 p1 a0 a1 n0 n1 slack F0 F1 W) (b : Blk W z 25 #[.int .i64 i, .int .i64 k]) (hi : i < n0) (hk : k < n1) (hf0 : F0[i]? = some f0) (hf1 : F1[k]? = some f1) {t0 t1 t2 t3 t4 t5 t6 t7 t9 t10 t12 t13 t14 t15 t16 t17 t18 t19 t20 t21 t22 t23 t24 t25 t26 t27 t28 t29 t30 t31 t32 t33 t34 t35 t36 t37 t38 t39 t40 t41 t42 t43 t44 t45 t46 t47 t48 t49 t50 t51 t52 t53 t54 t55 t56 t57 t58 t59 t60 t61 t62 t63 t64 t65 t66 t67 t68 t69 t70 t71 t72 t73 t74 t75 t76 t77 t78 t79 t80 t81 t82 t83 t84 t85 t86 t87 t88 t89 t90 t91 t92 t93 t94 t95 t96 t97 t98 t99 t100 t101 t102 t103 t104 t105 t106 t107 : Value} {ds : List Deferred} (Q : Exit → Act → World → Prop)
    (h : ∀ (t85 t86 t87 t88 t89 t90 t91 t92 t93 t94 t95 t96 t97 t98 t99 t100 t101 t102 t103 t104 : Value) (w' : World), MaM V q p0 p1 a0 a1 n0 n1 slack (F0.set i k) (F1.set k i) w' → Blk w' z 25 #[.int .i64 i, .int .i64 k] → Q .normal ⟨#[t0, t1, t2, t3, t4, t5, t6, t7, .pointer (some ⟨q, 0, none⟩), t9, t10, .pointer (some ⟨z, 0, none⟩), t12, t13, t14, t15, t16, t17, t18, t19, t20, t21, t22, t23, t24, t25, t26, t27, t28, t29, t30, t31, t32, t33, t34, t35, t36, t37, t38, t39, t40, t41, t42, t43, t44, t45, t46, t47, t48, t49, t50, t51, t52, t53, t54, t55, t56, t57, t58, t59, t60, t61, t62, t63, t64, t65, t66, t67, t68, t69, t70, t71, t72, t73, t74, t75, t76, t77, t78, t79, t80, t81, t82, t83, t84, t85, t86, t87, t88, t89, t90, t91, t92, t93, t94, t95, t96, t97, t98, t99, t100, t101, t102, t103, t104, t105, t106, t107], ds⟩ w') :
    (regOf Tryz.f74 13).wp Tryz.prog Q ⟨#[t0, t1, t2, t3, t4, t5, t6, t7, .pointer (some ⟨q, 0, none⟩), t9, t10, .pointer (some ⟨z, 0, none⟩), t12, t13, t14, t15, t16, t17, t18, t19, t20, t21, t22, t23, t24, t25, t26, t27, t28, t29, t30, t31, t32, t33, t34, t35, t36, t37, t38, t39, t40, t41, t42, t43, t44, t45, t46, t47, t48, t49, t50, t51, t52, t53, t54, t55, t56, t57, t58, t59, t60, t61, t62, t63, t64, t65, t66, t67, t68, t69, t70, t71, t72, t73, t74, t75, t76, t77, t78, t79, t80, t81, t82, t83, t84, t85, t86, t87, t88, t89, t90, t91, t92, t93, t94, t95, t96, t97, t98, t99, t100, t101, t102, t103, t104, t105, t106, t107], ds⟩ W := by
  have H := Lib.hid h; clear h
  have M := M.drew
  have b := b.drew
  have i1 : ((i : Int) < (n0 : Int)) := by omega
  have k1 : ((k : Int) < (n1 : Int)) := by omega
  conv in (regOf _ _) => whnf
  refine wp_region_w (fun w' => ∃ F0 F1, MaM V q p0 p1 a0 a1 n0 n1 slack F0 F1 w' ∧ Blk w' z 25 #[.int .i64 i, .int .i64 k]) (by kernel_rfl) (⟨F0, F1, M, b⟩) ?_
  refine wpW_det (t' := ?ct0R240) 0 (by rfl) (by kernel_rfl) (NQ_free _) (by kernel_rfl) ?cw0R240 ?ch0R240 ?ca0R240 (Eq.refl _) ?cH0R240
  case cw0R240 => (go_simp; done)
  case ch0R240 =>
    intro ds w' hS K hK
    obtain ⟨G0, G1, MS, bS⟩ := id hS
    obtain ⟨z0, z1, z2, z3, z4, zf⟩ := blk5c MS.box
    obtain ⟨d0, d1, df⟩ := blk2c bS
    have lq := MS.box.lt
    have lz := bS.lt
    go_simp
    try go_bits
    exact hK _ hS (Gr.refl _)
  case ca0R240 => (first | (simp [Act.put]; done) | (simp [Act.put, *]; done))
  try dsimp only
  refine wpW_det (t' := ?ct1R240) 1 (by rfl) (by kernel_rfl) (NQ_free _) (by kernel_rfl) ?cw1R240 ?ch1R240 ?ca1R240 (Eq.refl _) ?cH1R240
  case cw1R240 => (go_simp; done)
  case ch1R240 =>
    intro ds w' hS K hK
    obtain ⟨G0, G1, MS, bS⟩ := id hS
    obtain ⟨z0, z1, z2, z3, z4, zf⟩ := blk5c MS.box
    obtain ⟨d0, d1, df⟩ := blk2c bS
    have lq := MS.box.lt
    have lz := bS.lt
    go_simp
    try go_bits
    exact hK _ hS (Gr.refl _)
  case ca1R240 => (first | (simp [Act.put]; done) | (simp [Act.put, *]; done))
  try dsimp only
  refine wpW_det (t' := ?ct2R240) 2 (by rfl) (by kernel_rfl) (NQ_free _) (by kernel_rfl) ?cw2R240 ?ch2R240 ?ca2R240 (Eq.refl _) ?cH2R240
  case cw2R240 => (go_simp; done)
  case ch2R240 =>
    intro ds w' hS K hK
    obtain ⟨G0, G1, MS, bS⟩ := id hS
    obtain ⟨z0, z1, z2, z3, z4, zf⟩ := blk5c MS.box
    obtain ⟨d0, d1, df⟩ := blk2c bS
    have lq := MS.box.lt
    have lz := bS.lt
    go_simp
    try go_bits
    exact hK _ hS (Gr.refl _)
  case ca2R240 => (first | (simp [Act.put]; done) | (simp [Act.put, *]; done))
  try dsimp only
  refine wpW_det (t' := ?ct3R240) 3 (by rfl) (by kernel_rfl) (NQ_free _) (by kernel_rfl) ?cw3R240 ?ch3R240 ?ca3R240 (Eq.refl _) ?cH3R240
  case cw3R240 => (go_simp; done)
  case ch3R240 =>
    intro ds w' hS K hK
    obtain ⟨G0, G1, MS, bS⟩ := id hS
    obtain ⟨z0, z1, z2, z3, z4, zf⟩ := blk5c MS.box
    obtain ⟨d0, d1, df⟩ := blk2c bS
    have lq := MS.box.lt
    have lz := bS.lt
    go_simp
    try go_bits
    exact hK _ hS (Gr.refl _)
  case ca3R240 => (first | (simp [Act.put]; done) | (simp [Act.put, *]; done))
  try dsimp only
  refine wpW_det (t' := ?ct4R240) 4 (by rfl) (by kernel_rfl) (NQ_free _) (by kernel_rfl) ?cw4R240 ?ch4R240 ?ca4R240 (Eq.refl _) ?cH4R240
  case cw4R240 => (go_simp; done)
  case ch4R240 =>
    intro ds w' hS K hK
    obtain ⟨G0, G1, MS, bS⟩ := id hS
    obtain ⟨z0, z1, z2, z3, z4, zf⟩ := blk5c MS.box
    obtain ⟨d0, d1, df⟩ := blk2c bS
    have lq := MS.box.lt
    have lz := bS.lt
    go_simp
    try go_bits
    exact hK _ hS (Gr.refl _)
  case ca4R240 => (first | (simp [Act.put]; done) | (simp [Act.put, *]; done))
  try dsimp only
  refine wpW_det (t' := ?ct5R240) 5 (by rfl) (by kernel_rfl) (NQ_free _) (by kernel_rfl) ?cw5R240 ?ch5R240 ?ca5R240 (Eq.refl _) ?cH5R240
  case cw5R240 => (go_simp; done)
  case ch5R240 =>
    intro ds w' hS K hK
    obtain ⟨G0, G1, MS, bS⟩ := id hS
    obtain ⟨z0, z1, z2, z3, z4, zf⟩ := blk5c MS.box
    obtain ⟨d0, d1, df⟩ := blk2c bS
    have lq := MS.box.lt
    have lz := bS.lt
    go_simp
    try go_bits
    exact hK _ hS (Gr.refl _)
  case ca5R240 => (first | (simp [Act.put]; done) | (simp [Act.put, *]; done))
  try dsimp only
  refine wpW_det (t' := ?ct6R240) 6 (by rfl) (by kernel_rfl) (NQ_free _) (by kernel_rfl) ?cw6R240 ?ch6R240 ?ca6R240 (Eq.refl _) ?cH6R240
  case cw6R240 => (go_simp; done)
  case ch6R240 =>
    intro ds w' hS K hK
    obtain ⟨G0, G1, MS, bS⟩ := id hS
    obtain ⟨z0, z1, z2, z3, z4, zf⟩ := blk5c MS.box
    obtain ⟨d0, d1, df⟩ := blk2c bS
    have lq := MS.box.lt
    have lz := bS.lt
    go_simp
    try go_bits
    exact hK _ hS (Gr.refl _)
  case ca6R240 => (first | (simp [Act.put]; done) | (simp [Act.put, *]; done))
  try dsimp only
  refine wpW_det (t' := ?ct7R240) 7 (by rfl) (by kernel_rfl) (NQ_free _) (by kernel_rfl) ?cw7R240 ?ch7R240 ?ca7R240 (Eq.refl _) ?cH7R240
  case cw7R240 => (go_simp; done)
  case ch7R240 =>
    intro ds w' hS K hK
    obtain ⟨G0, G1, MS, bS⟩ := id hS
    obtain ⟨z0, z1, z2, z3, z4, zf⟩ := blk5c MS.box
    obtain ⟨d0, d1, df⟩ := blk2c bS
    have lq := MS.box.lt
    have lz := bS.lt
    go_simp
    try go_bits
    exact hK _ hS (Gr.refl _)
  case ca7R240 => (first | (simp [Act.put]; done) | (simp [Act.put, *]; done))
  try dsimp only
  refine wpW_det (t' := ?ct8R240) 8 (by rfl) (by kernel_rfl) (NQ_free _) (by kernel_rfl) ?cw8R240 ?ch8R240 ?ca8R240 (Eq.refl _) ?cH8R240
  case cw8R240 => (go_simp; done)
  case ch8R240 =>
    intro ds w' hS K hK
    obtain ⟨G0, G1, MS, bS⟩ := id hS
    obtain ⟨z0, z1, z2, z3, z4, zf⟩ := blk5c MS.box
    obtain ⟨d0, d1, df⟩ := blk2c bS
    have lq := MS.box.lt
    have lz := bS.lt
    go_simp
    try go_bits
    exact hK _ hS (Gr.refl _)
  case ca8R240 => (first | (simp [Act.put]; done) | (simp [Act.put, *]; done))
  try dsimp only
  refine wpW_det (t' := ?ct9R240) 9 (by rfl) (by kernel_rfl) (NQ_free _) (by kernel_rfl) ?cw9R240 ?ch9R240 ?ca9R240 (Eq.refl _) ?cH9R240
  case cw9R240 => (go_simp; done)
  case ch9R240 =>
    intro ds w' hS K hK
    obtain ⟨G0, G1, MS, bS⟩ := id hS
    obtain ⟨z0, z1, z2, z3, z4, zf⟩ := blk5c MS.box
    obtain ⟨d0, d1, df⟩ := blk2c bS
    have lq := MS.box.lt
    have lz := bS.lt
    go_simp
    try go_bits
    exact hK _ hS (Gr.refl _)
  case ca9R240 => (first | (simp [Act.put]; done) | (simp [Act.put, *]; done))
  try dsimp only
  refine wpW_det (t' := ?ct10R240) 10 (by rfl) (by kernel_rfl) (NQ_free _) (by kernel_rfl) ?cw10R240 ?ch10R240 ?ca10R240 (Eq.refl _) ?cH10R240
  case cw10R240 => (go_simp; done)
  case ch10R240 =>
    intro ds w' hS K hK
    obtain ⟨G0, G1, MS, bS⟩ := id hS
    obtain ⟨z0, z1, z2, z3, z4, zf⟩ := blk5c MS.box
    obtain ⟨d0, d1, df⟩ := blk2c bS
    have lq := MS.box.lt
    have lz := bS.lt
    go_simp
    try go_bits
    exact hK _ hS (Gr.refl _)
  case ca10R240 => (first | (simp [Act.put]; done) | (simp [Act.put, *]; done))
  try dsimp only
  refine wpW_det (t' := ?ct11R240) 11 (by rfl) (by kernel_rfl) (NQ_free _) (by kernel_rfl) ?cw11R240 ?ch11R240 ?ca11R240 (Eq.refl _) ?cH11R240
  case cw11R240 => (go_simp; done)
  case ch11R240 =>
    intro ds w' hS K hK
    obtain ⟨G0, G1, MS, bS⟩ := id hS
    obtain ⟨z0, z1, z2, z3, z4, zf⟩ := blk5c MS.box
    obtain ⟨d0, d1, df⟩ := blk2c bS
    have lq := MS.box.lt
    have lz := bS.lt
    go_simp
    try go_bits
    exact hK _ hS (Gr.refl _)
  case ca11R240 => (first | (simp [Act.put]; done) | (simp [Act.put, *]; done))
  try dsimp only
  refine wpW_det (t' := ?ct12R240) 12 (by rfl) (by kernel_rfl) (NQ_free _) (by kernel_rfl) ?cw12R240 ?ch12R240 ?ca12R240 (Eq.refl _) ?cH12R240
  case cw12R240 => (go_simp; done)
  case ch12R240 =>
    intro ds w' hS K hK
    obtain ⟨G0, G1, MS, bS⟩ := id hS
    obtain ⟨z0, z1, z2, z3, z4, zf⟩ := blk5c MS.box
    obtain ⟨d0, d1, df⟩ := blk2c bS
    have lq := MS.box.lt
    have lz := bS.lt
    go_simp
    try go_bits
    exact hK _ hS (Gr.refl _)
  case ca12R240 => (first | (simp [Act.put]; done) | (simp [Act.put, *]; done))
  try dsimp only
  refine wpW_det (t' := ?ct13R240) 13 (by rfl) (by kernel_rfl) (NQ_free _) (by kernel_rfl) ?cw13R240 ?ch13R240 ?ca13R240 (Eq.refl _) ?cH13R240
  case cw13R240 => (go_simp; done)
  case ch13R240 =>
    intro ds w' hS K hK
    obtain ⟨G0, G1, MS, bS⟩ := id hS
    obtain ⟨z0, z1, z2, z3, z4, zf⟩ := blk5c MS.box
    obtain ⟨d0, d1, df⟩ := blk2c bS
    have lq := MS.box.lt
    have lz := bS.lt
    go_simp
    try go_bits
    exact hK _ hS (Gr.refl _)
  case ca13R240 => (first | (simp [Act.put]; done) | (simp [Act.put, *]; done))
  try dsimp only
  refine wpW_det (t' := ?ct14R240) 14 (by rfl) (by kernel_rfl) (NQ_free _) (by kernel_rfl) ?cw14R240 ?ch14R240 ?ca14R240 (Eq.refl _) ?cH14R240
  case cw14R240 => (go_simp; done)
  case ch14R240 =>
    intro ds w' hS K hK
    obtain ⟨G0, G1, MS, bS⟩ := id hS
    obtain ⟨z0, z1, z2, z3, z4, zf⟩ := blk5c MS.box
    obtain ⟨d0, d1, df⟩ := blk2c bS
    have lq := MS.box.lt
    have lz := bS.lt
    go_simp
    try go_bits
    exact hK _ hS (Gr.refl _)
  case ca14R240 => (first | (simp [Act.put]; done) | (simp [Act.put, *]; done))
  try dsimp only
  refine wpW_det (t' := ?ct15R240) 15 (by rfl) (by kernel_rfl) (NQ_free _) (by kernel_rfl) ?cw15R240 ?ch15R240 ?ca15R240 (Eq.refl _) ?cH15R240
  case cw15R240 => (go_simp; done)
  case ch15R240 =>
    intro ds w' hS K hK
    obtain ⟨G0, G1, MS, bS⟩ := id hS
    obtain ⟨z0, z1, z2, z3, z4, zf⟩ := blk5c MS.box
    obtain ⟨d0, d1, df⟩ := blk2c bS
    have lq := MS.box.lt
    have lz := bS.lt
    go_simp
    try go_bits
    exact hK _ hS (Gr.refl _)
  case ca15R240 => (first | (simp [Act.put]; done) | (simp [Act.put, *]; done))
  try dsimp only
  refine wpW_det (t' := ?ct16R240) 16 (by rfl) (by kernel_rfl) (NQ_free _) (by kernel_rfl) ?cw16R240 ?ch16R240 ?ca16R240 (Eq.refl _) ?cH16R240
  case cw16R240 => (go_simp; done)
  case ch16R240 =>
    intro ds w' hS K hK
    obtain ⟨G0, G1, MS, bS⟩ := id hS
    obtain ⟨z0, z1, z2, z3, z4, zf⟩ := blk5c MS.box
    obtain ⟨d0, d1, df⟩ := blk2c bS
    have lq := MS.box.lt
    have lz := bS.lt
    go_simp
    try go_bits
    exact hK _ hS (Gr.refl _)
  case ca16R240 => (first | (simp [Act.put]; done) | (simp [Act.put, *]; done))
  try dsimp only
  refine wpW_det (t' := ?ct17R240) 17 (by rfl) (by kernel_rfl) (NQ_free _) (by kernel_rfl) ?cw17R240 ?ch17R240 ?ca17R240 (Eq.refl _) ?cH17R240
  case cw17R240 => (go_simp; done)
  case ch17R240 =>
    intro ds w' hS K hK
    obtain ⟨G0, G1, MS, bS⟩ := id hS
    obtain ⟨z0, z1, z2, z3, z4, zf⟩ := blk5c MS.box
    obtain ⟨d0, d1, df⟩ := blk2c bS
    have lq := MS.box.lt
    have lz := bS.lt
    go_simp
    try go_bits
    exact hK _ hS (Gr.refl _)
  case ca17R240 => (first | (simp [Act.put]; done) | (simp [Act.put, *]; done))
  try dsimp only
  refine wpW_branch [18] (by kernel_rfl) (by simp) ?_
  intro w1 hg1 hS1
  have M := MaM.gr M hg1
  have b := b.gr hg1
  try have u0 := M.r0.cell hf0
  try have u1 := M.r1.cell hf1
  have uf0 := M.r0.frozen i
  have uf1 := M.r1.frozen k
  refine each_cons ?_ (each_nil)
  · refine wpOp_go (by rfl) (Eq.refl _) (by go_simp; done) ?_
    intro K hK
    go_simp
    try simp only [Act.put]
    refine hK _ _ ⟨_, _, M, b⟩ ?_
    clear hK K
    refine wpW_branch [19] (by kernel_rfl) (by simp) ?_
    intro w2 hg2 hS2
    have M := MaM.gr M hg2
    have b := b.gr hg2
    try have u0 := M.r0.cell hf0
    try have u1 := M.r1.cell hf1
    have uf0 := M.r0.frozen i
    have uf1 := M.r1.frozen k
    refine each_cons ?_ (each_nil)
    · refine wpOp_go (by rfl) (Eq.refl _) (by go_simp; done) ?_
      intro K hK
      go_simp
      try simp only [Act.put]
      have b := b.far (p := ⟨p0, i, none⟩) (MaM.ne0b M b (by decide)) (.int .i64 k)
      have M := M.put0 i k
      refine hK _ _ ⟨_, _, M, b⟩ ?_
      clear hK K u0 uf0 uf1 hf0
      try clear u1
      refine wpW_branch [20] (by kernel_rfl) (by simp) ?_
      intro w3 hg3 hS3
      have M := MaM.gr M hg3
      have b := b.gr hg3
      try have u0 := M.r0.cell hf0
      try have u1 := M.r1.cell hf1
      have uf0 := M.r0.frozen i
      have uf1 := M.r1.frozen k
      refine each_cons ?_ (each_nil)
      · refine wpOp_go (by rfl) (Eq.refl _) (by go_simp; done) ?_
        intro K hK
        go_simp
        try simp only [Act.put]
        refine hK _ _ ⟨_, _, M, b⟩ ?_
        clear hK K
        refine wpW_branch [21] (by kernel_rfl) (by simp) ?_
        intro w4 hg4 hS4
        have M := MaM.gr M hg4
        have b := b.gr hg4
        try have u0 := M.r0.cell hf0
        try have u1 := M.r1.cell hf1
        have uf0 := M.r0.frozen i
        have uf1 := M.r1.frozen k
        refine each_cons ?_ (each_nil)
        · refine wpOp_go (by rfl) (Eq.refl _) (by go_simp; done) ?_
          intro K hK
          go_simp
          try simp only [Act.put]
          have b := b.far (p := ⟨p1, k, none⟩) (MaM.ne1b M b (by decide)) (.int .i64 i)
          have M := M.put1 k i
          refine hK _ _ ⟨_, _, M, b⟩ ?_
          clear hK K u1 uf0 uf1 hf1
          refine wpW_end (by kernel_rfl) ?_
          intro we hg hS
          unfold NQ
          dsimp only
          exact H.out _ _ _ _ _ _ _ _ _ _ _ _ _ _ _ _ _ _ _ _ we (MaM.gr M hg) (b.gr hg)
end Go.Proofs.YtidgeagpgllkeaaGreat

namespace Go.Proofs.YtidgeagpgllkeaaGreat
open Go.RowKit

def relV (l0 l1 : List Mk) (slack : Int) (a b : Int) : Bool := alikeV (l0[a.toNat]?.getD mkZ) (l1[b.toNat]?.getD mkZ) slack
/-- Which have a partner: just those that have been met. -/
def Taken (c : Int × Int → Int) (F : List Int) (seen : List (Int × Int)) : Prop := ∀ (a : Nat) (x : Int), F[a]? = some x → decide (0 ≤ x) = seen.any (fun q => decide (c q = (a : Int)))
theorem Taken.start (c : Int × Int → Int) (n : Nat) : Taken c (List.replicate n (-1)) [] := fun a x h => by
  rw [List.getElem?_replicate] at h
  split at h
  · obtain rfl : -1 = x := by simpa using h
    rfl
  · cases h
theorem Taken.add {c : Int × Int → Int} {F : List Int} {seen : List (Int × Int)} (h : Taken c F seen) {p : Int × Int} {i : Nat} {x : Int} (hp : c p = (i : Int)) (hx : 0 ≤ x) : Taken c (F.set i x) (seen ++ [p]) := fun a y hy => by
  rw [List.any_append, List.any_cons, List.any_nil, hp]
  rw [List.getElem?_set] at hy
  split at hy
  · rename_i e
    subst e
    split at hy
    · obtain rfl : x = y := by simpa using hy
      simp [hx]
    · cases hy
  · rename_i e
    rw [h a y hy]
    have : ((i : Int) = (a : Int)) = False := by simp; omega
    simp [this]
theorem pairsB_at {n m : Nat} {R : Int → Int → Bool} {P : List (Int × Int)} {k : Nat} {p : Int × Int} (h : P[k]? = some p) : pairsB n m R P k = pairB n m R (P.take k) p := by unfold pairsB; rw [h]; rfl
theorem marks_small {l : List Mk} (h : (marksE l).2 = 0) : ∀ m ∈ l, MkS m := fun m hm => by
  obtain ⟨h1, h2⟩ := marksE_zero h
  obtain ⟨j, hj, rfl⟩ := List.getElem_of_mem hm
  exact (markE_zero (h2 j hj hj).1).1
theorem pairB_out {n m : Nat} {R : Int → Int → Bool} {seen : List (Int × Int)} {p : Int × Int} (h : (wi p.1 0 ((n : Int) - 1) && wi p.2 0 ((m : Int) - 1)) = false) : pairB n m R seen p = 6 := by unfold pairB; rw [if_pos h]
theorem pairB_two {n m : Nat} {R : Int → Int → Bool} {seen : List (Int × Int)} {p : Int × Int} (h : (wi p.1 0 ((n : Int) - 1) && wi p.2 0 ((m : Int) - 1)) = true) (h2 : (seen.any (fun q => decide (q.1 = p.1)) || seen.any (fun q => decide (q.2 = p.2))) = true) : pairB n m R seen p = 24 := by unfold pairB; rw [if_neg (by rw [h]; decide), if_pos h2]
theorem pairB_far {n m : Nat} {R : Int → Int → Bool} {seen : List (Int × Int)} {p : Int × Int} (h : (wi p.1 0 ((n : Int) - 1) && wi p.2 0 ((m : Int) - 1)) = true) (h2 : (seen.any (fun q => decide (q.1 = p.1)) || seen.any (fun q => decide (q.2 = p.2))) = false) (h3 : R p.1 p.2 = false) : pairB n m R seen p = 18 := by unfold pairB; rw [if_neg (by rw [h]; decide), if_neg (by rw [h2]; decide), if_pos h3]
theorem pairB_fine {n m : Nat} {R : Int → Int → Bool} {seen : List (Int × Int)} {p : Int × Int} (h : (wi p.1 0 ((n : Int) - 1) && wi p.2 0 ((m : Int) - 1)) = true) (h2 : (seen.any (fun q => decide (q.1 = p.1)) || seen.any (fun q => decide (q.2 = p.2))) = false) (h3 : R p.1 p.2 = true) : pairB n m R seen p = 0 := by unfold pairB; rw [if_neg (by rw [h]; decide), if_neg (by rw [h2]; decide), if_neg (by rw [h3]; decide)]
def cpE (l0 l1 : List Mk) (slack : Int) (P : List (Int × Int)) : Int := if openE l0 l1 slack = 0 then pairsE l0.length l1.length (relV l0 l1 slack) P else openE l0 l1 slack
def cpN (l0 l1 : List Mk) (slack : Int) (P : List (Int × Int)) : Int := if cpE l0 l1 slack P = 0 then (P.length : Int) else 0
theorem cp_bad {l0 l1 : List Mk} {slack : Int} {P : List (Int × Int)} {k : Nat} {p : Int × Int} {e : Int} (ho : openE l0 l1 slack = 0) (hz : ∀ j, j < k → pairsB l0.length l1.length (relV l0 l1 slack) P j = 0) (hp : P[k]? = some p) (he : pairB l0.length l1.length (relV l0 l1 slack) (P.take k) p = e) (hn : e ≠ 0) : cpE l0 l1 slack P = e ∧ cpN l0 l1 slack P = 0 := by
  have hk : k < P.length := (List.getElem?_eq_some_iff.1 hp).1
  have h1 : pairsE l0.length l1.length (relV l0 l1 slack) P = e := by
    unfold pairsE
    rw [firstBad_at hz (by rw [pairsB_at hp, he]; exact hn) hk, pairsB_at hp, he]
  have h2 : cpE l0 l1 slack P = e := by unfold cpE; rw [if_pos ho, h1]
  exact ⟨h2, by unfold cpN; rw [h2, if_neg hn]⟩
theorem cp_good {l0 l1 : List Mk} {slack : Int} {P : List (Int × Int)} (ho : openE l0 l1 slack = 0) (hz : ∀ j, j < P.length → pairsB l0.length l1.length (relV l0 l1 slack) P j = 0) : cpE l0 l1 slack P = 0 ∧ cpN l0 l1 slack P = P.length := by
  have h2 : cpE l0 l1 slack P = 0 := by unfold cpE; rw [if_pos ho]; exact firstBad_pre hz
  exact ⟨h2, by unfold cpN; rw [if_pos h2]⟩
theorem cp_open {l0 l1 : List Mk} {slack : Int} {P : List (Int × Int)} (ho : openE l0 l1 slack ≠ 0) : cpE l0 l1 slack P = openE l0 l1 slack ∧ cpN l0 l1 slack P = 0 := by
  have h2 : cpE l0 l1 slack P = openE l0 l1 slack := by unfold cpE; rw [if_neg ho]
  exact ⟨h2, by unfold cpN; rw [h2, if_neg ho]⟩

set_option maxRecDepth 100000 in
set_option maxHeartbeats 8000000 in
theorem checkPairs_any (l0 l1 : List Mk) (A0 A1 A2 : Option Addr) (c0 c1 c2 B : Nat) (slack : Int) (P : List (Int × Int)) (w : World) (h0 : MkOk l0 A0 B w) (h1 : MkOk l1 A1 B w) (hP : Row w B 2 A2 P.length (cellsC P)) (hc0 : l0.length ≤ c0) (hc1 : l1.length ≤ c1) (hB : B ≤ w.heap.size) (hn0 : l0.length ≤ 1000) (hn1 : l1.length ≤ 1000) (hPn : P.length ≤ 1000) :
    Calls Tryz.prog 74 #[.agg #[.slice A0 l0.length c0, .slice A1 l1.length c1], .int .i64 slack, .slice A2 P.length c2] w fun e w' => e = .returned (.tuple #[.int .i64 (cpN l0 l1 slack P), .int .i64 (cpE l0 l1 slack P)]) ∧ Below w.heap.size w w' := by
  have b3 := Blk.new w 124 #[.slice A0 l0.length c0, .slice A1 l1.length c1]
  have hBB : Below w.heap.size w (w.alloc (.cells #[.slice A0 l0.length c0, .slice A1 l1.length c1] 124)) := (by repeat (first | (with_reducible exact Below.refl _ _) | (with_reducible assumption) | ((with_reducible refine Below.setCell ?_ ?_ _); rotate_left; · (first | exact Nat.le_refl _ | (simp; done) | (simp; omega) | omega)) | ((with_reducible refine Below.alloc ?_ ?_ _); rotate_left; · (first | exact Nat.le_refl _ | (simp; done) | (simp; omega) | omega)) | (with_reducible apply Below.drew) | (with_reducible apply below_drewN') | (refine Below.trans ?_ (Below.mono (by assumption) (by first | exact Nat.le_refl _ | (simp; done) | (simp; omega) | omega))) | exact Below.refl _ _ | assumption))
  obtain ⟨d0, d1, d2⟩ := blk2c b3
  have l3 := b3.lt
  obtain ⟨E, hE⟩ : ∃ E, cpE l0 l1 slack P = E := ⟨_, rfl⟩
  obtain ⟨NN, hNN⟩ : ∃ N, cpN l0 l1 slack P = N := ⟨_, rfl⟩
  rw [hE, hNN]
  go_enter Tryz.func74, Tryz.ntmps74
  go_wp2_with fail
  obtain ⟨W, hW⟩ : ∃ W, w.alloc (.cells #[.slice A0 l0.length c0, .slice A1 l1.length c1] 124) = W := ⟨_, rfl⟩
  rw [hW] at b3 hBB d0 d1 d2 l3 ⊢
  clear hW
  have hzW := Below.size hBB
  by_cases he : openE l0 l1 slack = 0
  case neg =>
    obtain ⟨x1, x2⟩ := cp_open (P := P) he
    rw [hE] at x1
    rw [hNN] at x2
    subst x2
    subst x1
    clear hE hNN
    refine (openLists_bad l0 l1 A0 A1 c0 c1 B slack _ (h0.below hBB hB) (h1.below hBB hB) hc0 hc1 (by omega) he).mono ?_
    rintro e w1 ⟨rfl, hB1⟩
    have hne : (openE l0 l1 slack != 0) = true := by simpa using he
    go_wp2
    go_ret2
    exact ⟨rfl, hBB.trans (hB1.mono hzW)⟩
  case pos =>
    have HBAD : Hid (∀ (k : Nat) (p : Int × Int) (e : Int), (∀ j, j < k → pairsB l0.length l1.length (relV l0 l1 slack) P j = 0) → P[k]? = some p → pairB l0.length l1.length (relV l0 l1 slack) (P.take k) p = e → e ≠ 0 → cpE l0 l1 slack P = e ∧ cpN l0 l1 slack P = 0) := Lib.hid (fun k p e a b c d => cp_bad he a b c d)
    have HGOOD : Hid ((∀ j, j < P.length → pairsB l0.length l1.length (relV l0 l1 slack) P j = 0) → cpE l0 l1 slack P = 0 ∧ cpN l0 l1 slack P = P.length) := Lib.hid (cp_good he)
    have hz := (firstE_zero _).1 he
    have HS0 : Hid (∀ m ∈ l0, MkS m) := Lib.hid (marks_small (hz (marksE l0).2 (by simp)))
    have HS1 : Hid (∀ m ∈ l1, MkS m) := Lib.hid (marks_small (hz (marksE l1).2 (by simp)))
    refine (openLists_ok l0 l1 A0 A1 c0 c1 B slack _ (h0.below hBB hB) (h1.below hBB hB) hc0 hc1 (by omega) hn0 hn1 he).mono ?_
    rintro e w1 ⟨q, p0, p1, rfl, M⟩
    have H0 := Lib.hid (h0.row.below hBB hB); have H1 := Lib.hid (h1.row.below hBB hB); have HPR := Lib.hid (hP.below hBB hB)
    have HBB := Lib.hid hBB
    rw [hE, hNN] at HBAD HGOOD
    clear hE hNN he hz hBB h0 h1 hP
    go_wp2
    go_loopw [23] (fun s23 wr => ∃ (k : Nat) (F0 F1 : List Int), k ≤ P.length ∧ s23 = .int .i64 k ∧ Hid (∀ j, j < k → pairsB l0.length l1.length (relV l0 l1 slack) P j = 0) ∧ Hid (Taken (·.1) F0 (P.take k) ∧ Taken (·.2) F1 (P.take k)) ∧ MaM W q p0 p1 (.slice A0 l0.length c0) (.slice A1 l1.length c1) l0.length l1.length slack F0 F1 wr) (fun s23 _ => P.length - (intOf s23).toNat)
    case atStart => exact ⟨0, _, _, Nat.zero_le _, rfl, Lib.hid (fun j hj => by omega), Lib.hid ⟨Taken.start _ _, Taken.start _ _⟩, M⟩
    case round =>
      clear M d0 d1 d2
      obtain ⟨k, F0, F1, hk, rfl, HZ, HT, M⟩ := hrel
      have hx := M.r0.below
      have hzx := Below.size hx
      by_cases hlt : k < P.length
      · have hPW := HPR.out.below hx (show B ≤ W.heap.size by omega)
        obtain ⟨g, o, hA, hg, v0, v1⟩ := cellPair hPW hlt
        obtain ⟨p, hp⟩ : ∃ p, P[k] = p := ⟨_, rfl⟩
        have hpk : P[k]? = some p := by rw [List.getElem?_eq_getElem hlt, hp]
        rw [hp] at v0 v1
        have HPK := Lib.hid hpk
        have hlg : g < wr.heap.size := by omega
        have i1 : ((k : Int) < (P.length : Int)) := by omega
        subst hA
        have b3' := b3.gr hx
        have HB3 : Hid (∀ Z, Gr wr Z → Blk Z w.heap.size 124 #[.slice A0 l0.length c0, .slice A1 l1.length c1]) := Lib.hid (fun Z hZ => b3'.gr hZ)
        clear hp hpk hPW
        by_cases hin : (wi p.1 0 ((l0.length : Int) - 1) && wi p.2 0 ((l1.length : Int) - 1)) = true
        case neg =>
          have hin' : (wi p.1 0 ((l0.length : Int) - 1) && wi p.2 0 ((l1.length : Int) - 1)) = false := by simpa using hin
          obtain ⟨rfl, rfl⟩ := HBAD.out k p 6 HZ.out HPK.out (pairB_out hin') (by decide)
          have b11 := Blk.new wr 25 #[.int .i64 p.1, .int .i64 p.2]
          have hgA : Gr wr (wr.alloc (.cells #[.int .i64 p.1, .int .i64 p.2] 25)) := (Below.refl _ _).alloc (Nat.le_refl _) _
          have b3a := HB3.out _ hgA
          have M1 := M.gr hgA
          have e3 := blk2c b3a
          obtain ⟨d0, d1, d2⟩ := e3
          have l3a := b3a.lt
          go_wp2_with fail
          obtain ⟨wa, hwa⟩ : ∃ wa, wr.alloc (.cells #[.int .i64 p.1, .int .i64 p.2] 25) = wa := ⟨_, rfl⟩
          rw [hwa] at b11 b3a M1 d0 d1 d2 l3a ⊢
          clear hwa hgA v0 v1 M hlg
          obtain ⟨x0, x1, x2⟩ := blk2c b11
          have lx := b11.lt
          have hbe := HBB.out.trans (M1.r0.below.mono hzW)
          cases hw0 : wi p.1 0 ((l0.length : Int) - 1)
          · have Q0 := Lib.hid hw0
            clear hw0 hin hin'
            refine (within_any _ _ _ _).mono ?_
            rw [Q0.out]
            rintro e w1 ⟨rfl, rfl⟩
            go_wp2
            go_ret2
            exact ⟨rfl, hbe⟩
          · have hw1 : wi p.2 0 ((l1.length : Int) - 1) = false := by rw [hw0] at hin'; simpa using hin'
            have Q0 := Lib.hid hw0
            have Q1 := Lib.hid hw1
            clear hw0 hw1 hin hin'
            refine (within_any _ _ _ _).mono ?_
            rw [Q0.out]
            rintro e w1 ⟨rfl, rfl⟩
            go_wp2_with fail
            refine (within_any _ _ _ _).mono ?_
            rw [Q1.out]
            rintro e w1 ⟨rfl, rfl⟩
            go_wp2
            go_ret2
            exact ⟨rfl, hbe⟩
        case pos =>
          obtain ⟨i, j, rfl, hi, hj⟩ : ∃ i j : Nat, p = ((i : Int), (j : Int)) ∧ i < l0.length ∧ j < l1.length := by
            obtain ⟨pa, pb⟩ := p
            simp [wi] at hin
            exact ⟨pa.toNat, pb.toNat, by rw [Prod.mk.injEq]; omega, by omega, by omega⟩
          have hw := hin
          rw [Bool.and_eq_true] at hw
          have Q0 := Lib.hid hw.1
          have Q1 := Lib.hid hw.2
          have HIN := Lib.hid hin
          dsimp only at v0 v1 Q0 Q1
          clear hin hw
          obtain ⟨f0, hf0⟩ : ∃ f, F0[i]? = some f := ⟨F0[i]'(by rw [M.r0.len]; exact hi), List.getElem?_eq_getElem _⟩
          obtain ⟨f1, hf1⟩ : ∃ f, F1[j]? = some f := ⟨F1[j]'(by rw [M.r1.len]; exact hj), List.getElem?_eq_getElem _⟩
          have hT0 := HT.out.1 i f0 hf0
          have hT1 := HT.out.2 j f1 hf1
          have i2 : ((i : Int) < (l0.length : Int)) := by omega
          have j2 : ((j : Int) < (l1.length : Int)) := by omega
          have hsl := M.r0.lt
          have HT0 := Lib.hid hT0
          have HT1 := Lib.hid hT1
          clear hT0 hT1
          have b11 := Blk.new wr 25 #[.int .i64 (i : Int), .int .i64 (j : Int)]
          have hgA : Gr wr (wr.alloc (.cells #[.int .i64 (i : Int), .int .i64 (j : Int)] 25)) := (Below.refl _ _).alloc (Nat.le_refl _) _
          have b3a := HB3.out _ hgA
          have M1 := M.gr hgA
          have e3 := blk2c b3a
          obtain ⟨d0, d1, d2⟩ := e3
          have l3a := b3a.lt
          go_wp2_with fail
          obtain ⟨wa, hwa⟩ : ∃ wa, wr.alloc (.cells #[.int .i64 (i : Int), .int .i64 (j : Int)] 25) = wa := ⟨_, rfl⟩
          rw [hwa] at b11 b3a M1 d0 d1 d2 l3a ⊢
          clear hwa hgA v0 v1 M hlg
          obtain ⟨x0, x1, x2⟩ := blk2c b11
          have lx := b11.lt
          have hbe := HBB.out.trans (M1.r0.below.mono hzW)
          refine (within_any _ _ _ _).mono ?_
          rw [Q0.out]
          rintro e w1 ⟨rfl, rfl⟩
          go_wp2_with fail
          refine (within_any _ _ _ _).mono ?_
          rw [Q1.out]
          rintro e w1 ⟨rfl, rfl⟩
          obtain ⟨z0, z1, z2, z3, z4, zf⟩ := blk5c M1.box
          have lq := M1.box.lt
          have u0 := M1.r0.cell hf0
          have u1 := M1.r1.cell hf1
          have lp0 := M1.r0.lt
          have lp1 := M1.r1.lt
          by_cases hg0 : 0 ≤ f0
          · have hx0 : decide (f0 ≥ 0) = true := decide_eq_true hg0
            have hx0' : decide (0 ≤ f0) = true := decide_eq_true hg0
            obtain ⟨rfl, rfl⟩ := HBAD.out k _ 24 HZ.out HPK.out (pairB_two HIN.out (by have := HT0.out; rw [hx0'] at this; rw [← this]; rfl)) (by decide)
            go_wp2
            go_quiet (fail)
            go_wp2
            go_ret2
            exact ⟨rfl, below_drewN' hbe _⟩
          have hx0 : decide (f0 ≥ 0) = false := decide_eq_false hg0
          have hx0' : decide (0 ≤ f0) = false := decide_eq_false hg0
          by_cases hg1 : 0 ≤ f1
          · have hx1 : decide (f1 ≥ 0) = true := decide_eq_true hg1
            have hx1' : decide (0 ≤ f1) = true := decide_eq_true hg1
            obtain ⟨rfl, rfl⟩ := HBAD.out k _ 24 HZ.out HPK.out (pairB_two HIN.out (by have := HT1.out; rw [hx1'] at this; rw [← this, Bool.or_true])) (by decide)
            go_wp2
            go_quiet (fail)
            go_wp2
            go_ret2
            exact ⟨rfl, below_drewN' hbe _⟩
          have hx1 : decide (f1 ≥ 0) = false := decide_eq_false hg1
          have hx1' : decide (0 ≤ f1) = false := decide_eq_false hg1
          have HNT : Hid (((P.take k).any (fun q => decide (q.1 = ((i : Int), (j : Int)).1)) || (P.take k).any (fun q => decide (q.2 = ((i : Int), (j : Int)).2))) = false) := Lib.hid (by have h0 := HT0.out; have h1 := HT1.out; rw [hx0'] at h0; rw [hx1'] at h1; dsimp only; rw [← h0, ← h1]; rfl)
          go_wp2
          go_quiet (fail)
          clear z0 z1 z2 z3 z4 zf lq u0 u1
          obtain ⟨wd, hwd⟩ : ∃ wd, wa.drewN nq = wd := ⟨_, rfl⟩
          have hgd : Gr wa wd := by rw [← hwd]; exact ⟨rfl, rfl, rfl, Nat.le_refl _, fun _ _ => rfl⟩
          rw [hwd]
          clear hwd x0 x1 x2 d0 d1 d2 l3a lx
          have M2 := M1.gr hgd
          have c11 := b11.gr hgd
          have c3 := b3a.gr hgd
          have hbe2 := HBB.out.trans (M2.r0.below.mono hzW)
          have hb2 := M2.r0.below
          clear M1 b11 b3a hbe hgd
          have hzd := Below.size hb2
          obtain ⟨g0, o0, hA0, hgl0, y0, y1, y2, y3, y4, y5⟩ := mkCells (H0.out.below hb2 (show B ≤ W.heap.size by omega)) hi
          obtain ⟨g1, o1, hA1, hgl1, e0, e1, e2, e3, e4, e5⟩ := mkCells (H1.out.below hb2 (show B ≤ W.heap.size by omega)) hj
          have HSY : Hid (MkS l0[i]) := Lib.hid (HS0.out _ (List.getElem_mem hi))
          have HSX : Hid (MkS l1[j]) := Lib.hid (HS1.out _ (List.getElem_mem hj))
          have hR : relV l0 l1 slack (i : Int) (j : Int) = alikeV l0[i] l1[j] slack := by unfold relV; rw [Int.toNat_natCast, Int.toNat_natCast, List.getElem?_eq_getElem hi, List.getElem?_eq_getElem hj]; rfl
          obtain ⟨x, hx'⟩ : ∃ x, l1[j] = x := ⟨_, rfl⟩
          obtain ⟨y, hy'⟩ : ∃ y, l0[i] = y := ⟨_, rfl⟩
          rw [hx'] at e0 e1 e2 e3 e4 e5 HSX hR
          rw [hy'] at y0 y1 y2 y3 y4 y5 HSY hR
          clear hx' hy'
          subst hA0
          subst hA1
          have lg0 : g0 < wd.heap.size := by omega
          have lg1 : g1 < wd.heap.size := by omega
          obtain ⟨d0, d1, d2⟩ := blk2c c3
          obtain ⟨x0, x1, x2⟩ := blk2c c11
          have l3 := c3.lt
          have lx := c11.lt
          cases hRk : relV l0 l1 slack (i : Int) (j : Int)
          · obtain ⟨rfl, rfl⟩ := HBAD.out k _ 18 HZ.out HPK.out (pairB_far HIN.out HNT.out hRk) (by decide)
            rw [hRk] at hR
            have HA : Hid (alikeV y x slack = false) := Lib.hid hR.symm
            clear hR hRk
            go_upto_region 11 with fail
            refine wp_region_b 16 (by kernel_rfl) (by kernel_rfl) ?_; simp only [List.take, List.drop]
            repeat (first
              | (apply StepsD.run
                 · go_simp
                   done
                 · intro w' hS K hK
                   have hc := (bcell hS).1
                   have hf := (bcell hS).2
                   have hz := hS.size
                   try simp at hz
                   go_simp
                   try go_bits
                   first
                     | exact hK _ hS
                     | (go_at_call 127; (with_reducible refine (alike_any y x slack HSY.out HSX.out _).mono ?_); rw [HA.out]; rintro e w1 ⟨rfl, hB1⟩; obtain ⟨hc1, hf1⟩ := bcell hB1; have hz1 := hB1.size; (try simp at hz1); exact hK _ (Below.trans hS (Below.mono hB1 (by first | exact Nat.le_refl _ | (simp; done) | (simp; omega) | omega))))
                     | exact hK _ (by repeat (first | (with_reducible exact Below.refl _ _) | (with_reducible assumption) | ((with_reducible refine Below.setCell ?_ ?_ _); rotate_left; · (first | exact Nat.le_refl _ | (simp; done) | (simp; omega) | omega)) | ((with_reducible refine Below.alloc ?_ ?_ _); rotate_left; · (first | exact Nat.le_refl _ | (simp; done) | (simp; omega) | omega)) | (with_reducible apply Below.drew) | (with_reducible apply below_drewN') | (refine Below.trans ?_ (Below.mono (by assumption) (by first | exact Nat.le_refl _ | (simp; done) | (simp; omega) | omega))) | exact Below.refl _ _ | assumption))
                 · simp [Act.put]
                   done)
              | (apply StepsD.pass
                 · go_simp
                   done
                 · simp only [Act.put, List.setIfInBounds_toArray, List.set_cons_succ, List.set_cons_zero]
                   rfl))
            refine StepsD.done ?_
            intro w2 hS
            go_wp2
            go_ret2
            exact ⟨rfl, hbe2.trans (hS.mono (by omega))⟩
          · have HZN : Hid (∀ m, m < k + 1 → pairsB l0.length l1.length (relV l0 l1 slack) P m = 0) := Lib.hid (fun m hm => by
              by_cases e : m = k
              · subst e; rw [pairsB_at HPK.out]; exact pairB_fine HIN.out HNT.out hRk
              · exact HZ.out m (by omega))
            have htk : P.take (k + 1) = P.take k ++ [((i : Int), (j : Int))] := by rw [List.take_add_one, HPK.out]; rfl
            have HTN : Hid (Taken (·.1) (F0.set i j) (P.take (k + 1)) ∧ Taken (·.2) (F1.set j i) (P.take (k + 1))) := Lib.hid (by rw [htk]; exact ⟨HT.out.1.add rfl (by omega), HT.out.2.add rfl (by omega)⟩)
            rw [hRk] at hR
            have HA : Hid (alikeV y x slack = true) := Lib.hid hR.symm
            clear hR hRk htk
            go_upto_region 11 with fail
            refine wp_region_b 16 (by kernel_rfl) (by kernel_rfl) ?_; simp only [List.take, List.drop]
            repeat (first
              | (apply StepsD.run
                 · go_simp
                   done
                 · intro w' hS K hK
                   have hc := (bcell hS).1
                   have hf := (bcell hS).2
                   have hz := hS.size
                   try simp at hz
                   go_simp
                   try go_bits
                   first
                     | exact hK _ hS
                     | (go_at_call 127; (with_reducible refine (alike_any y x slack HSY.out HSX.out _).mono ?_); rw [HA.out]; rintro e w1 ⟨rfl, hB1⟩; obtain ⟨hc1, hf1⟩ := bcell hB1; have hz1 := hB1.size; (try simp at hz1); exact hK _ (Below.trans hS (Below.mono hB1 (by first | exact Nat.le_refl _ | (simp; done) | (simp; omega) | omega))))
                     | exact hK _ (by repeat (first | (with_reducible exact Below.refl _ _) | (with_reducible assumption) | ((with_reducible refine Below.setCell ?_ ?_ _); rotate_left; · (first | exact Nat.le_refl _ | (simp; done) | (simp; omega) | omega)) | ((with_reducible refine Below.alloc ?_ ?_ _); rotate_left; · (first | exact Nat.le_refl _ | (simp; done) | (simp; omega) | omega)) | (with_reducible apply Below.drew) | (with_reducible apply below_drewN') | (refine Below.trans ?_ (Below.mono (by assumption) (by first | exact Nat.le_refl _ | (simp; done) | (simp; omega) | omega))) | exact Below.refl _ _ | assumption))
                 · simp [Act.put]
                   done)
              | (apply StepsD.pass
                 · go_simp
                   done
                 · simp only [Act.put, List.setIfInBounds_toArray, List.set_cons_succ, List.set_cons_zero]
                   rfl))
            refine StepsD.done ?_
            intro w2 hS
            have M3 := M2.gr hS
            have c13 := c11.gr hS
            clear y0 y1 y2 y3 y4 y5 e0 e1 e2 e3 e4 e5 d0 d1 d2 x0 x1 x2 l3 lx lg0 lg1 M2 c11 c3
            go_upto_region 13 with fail
            refine pairReg13 M3 c13 hi hj hf0 hf1 _ ?_
            intro t85 t86 t87 t88 t89 t90 t91 t92 t93 t94 t95 t96 t97 t98 t99 t100 t101 t102 t103 t104 w4 M4 b4
            go_wp2
            exact ⟨⟨k + 1, _, _, by omega, by go_num, HZN, HTN, M4⟩, by simp [intOf]; omega⟩
      · obtain rfl : k = P.length := by omega
        obtain ⟨rfl, rfl⟩ := HGOOD.out HZ.out
        go_wp2
        go_ret2
        exact ⟨rfl, HBB.out.trans (hx.mono hzW)⟩
end Go.Proofs.YtidgeagpgllkeaaGreat
