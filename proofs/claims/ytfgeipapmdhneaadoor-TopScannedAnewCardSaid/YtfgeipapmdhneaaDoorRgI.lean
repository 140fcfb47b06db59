/- A region that draws its order, within an iterator (the widest fence): one operation is taken first; the world may grow. -/
import Derived.OrdersIn
import Derived.TacticsIn
import Derived.Test.YtfgeipapmdhneaaDoorZsRgW
namespace Go.Proofs.YtfgeipapmdhneaaDoor
open Go Go.RowKit

section
variable {P : Program} {ops : Array Oper} {Q : Exit → Act → World → Prop} {md : Region.Mode} {S : World → Prop} {n b : Nat}

/-- Whatever order is picked from here on, in whatever world that has grown since. -/
def wpWI (b n : Nat) (P : Program) (md : Region.Mode) (ops : Array Oper) (Q : Exit → Act → World → Prop) (S : World → Prop) : Nat → Array Bool → Act → World → Prop
  | 0, listed, a, w => ∀ w', Gr w w' → S w' → Region.ready md ops listed = [] ∧ Q .normal a w'
  | f + 1, listed, a, w => ∀ w', Gr w w' → S w' → (Region.ready md ops listed = [b] ∧ wpAnyIn Fence.wide n P md ops Q (f + 1) listed a w') ∨ ((Region.ready md ops listed = [] → Q .normal a w') ∧
      ∀ i ∈ Region.ready md ops listed, wpOpIn Fence.wide n P ops Q i (fun a' w'' => S w'' ∧ wpWI b n P md ops Q S f (listed.setIfInBounds i true) a' w'') a w')
/-- What is listed has what it waits for. -/
def Closed (md : Region.Mode) (ops : Array Oper) (listed : Array Bool) : Prop := ∀ (x : Nat) (o : Oper), ops[x]? = some o → listed.getD x false = true → ∀ e ∈ o.after, Region.binds md e = true → listed.getD e.on false = true
/-- All of these come ahead of b. -/
def ancB (md : Region.Mode) (ops : Array Oper) (b : Nat) : List Nat → List Nat → Bool
  | _, [] => true
  | seen, i :: r => ((b :: seen).any fun x => Region.waitsFor md ops x i) && ancB md ops b (i :: seen) r

theorem wpWI_up {f : Nat} {listed : Array Bool} {a : Act} {w w1 : World} (h : wpWI b n P md ops Q S f listed a w) (hg : Gr w w1) : wpWI b n P md ops Q S f listed a w1 := by
  cases f with
  | zero => exact fun w' h1 hS => h w' (hg.trans h1) hS
  | succ f => exact fun w' h1 hS => h w' (hg.trans h1) hS

theorem wpAnyIn_of_wpWI : ∀ (f : Nat) (listed : Array Bool) (a : Act) (w : World), wpWI b n P md ops Q S f listed a w → S w → wpAnyIn Fence.wide n P md ops Q f listed a w
  | 0, _, _, w, h, hS => h w (Gr.refl w) hS
  | f + 1, _, _, w, h, hS => (h w (Gr.refl w) hS).elim (fun h => h.2) fun h => ⟨h.1, fun i hi => wpOpIn_mono (fun a' w' hh => wpAnyIn_of_wpWI f _ a' w' hh.2 hh.1) (h.2 i hi)⟩
theorem listed_of_wait {listed : Array Bool} {o : Oper} {j : Nat} (hun : ∀ e ∈ o.after, Region.binds md e = true → listed.getD e.on false = true) (hj : ops[j]? = some o) {i : Nat} (hw : Region.waitsFor md ops j i = true) : listed.getD i false = true := by
  obtain ⟨o', ho', e, he, hbe, hon⟩ := Region.waitsFor_spec hw
  obtain rfl : o' = o := Option.some.inj (ho'.symm.trans hj)
  have := hun e he hbe
  rw [hon] at this
  exact this
theorem Closed.anc {listed : Array Bool} (hC : Closed md ops listed) (hsz : listed.size = ops.size) (hb : b ∈ Region.ready md ops listed) : ∀ (l seen : List Nat), (∀ i ∈ l, i < ops.size) → (∀ x ∈ seen, listed.getD x false = true) → ancB md ops b seen l = true → ∀ i ∈ l, listed.getD i false = true
  | [], _, _, _, _, _, h => by cases h
  | i :: r, seen, hl, hs, h, j, hj => by
    unfold ancB at h
    rw [Bool.and_eq_true] at h
    have hi : listed.getD i false = true := by
      obtain ⟨x, hx, hw⟩ := List.any_eq_true.1 h.1
      rcases List.mem_cons.1 hx with rfl | hx
      · obtain ⟨_, o, ho, hall⟩ := mem_ready.1 hb
        exact listed_of_wait hall ho hw
      · obtain ⟨o, ho, e, he, hbe, hon⟩ := Region.waitsFor_spec hw
        have := hC x o ho (hs x hx) e he hbe
        rwa [hon] at this
    rcases List.mem_cons.1 hj with rfl | hj
    · exact hi
    · exact Closed.anc hC hsz hb r (i :: seen) (fun k hk => hl k (List.mem_cons_of_mem _ hk)) (fun x hx => (List.mem_cons.1 hx).elim (fun e => by rw [e]; exact hi) (hs x)) h.2 j hj
theorem Closed.add {listed : Array Bool} (hC : Closed md ops listed) (hsz : listed.size = ops.size) {j : Nat} (hj : j ∈ Region.ready md ops listed) (_hin : ∀ (x : Nat) (o : Oper), ops[x]? = some o → ∀ e ∈ o.after, e.on < ops.size) : Closed md ops (listed.setIfInBounds j true) := by
  obtain ⟨_, oj, hoj, hall⟩ := mem_ready.1 hj
  have up : ∀ y, listed.getD y false = true → (listed.setIfInBounds j true).getD y false = true := fun y hy => by
    by_cases e : y = j
    · subst e
      have : y < listed.size := by rw [hsz]; exact (Array.getElem?_eq_some_iff.1 hoj).1
      simp [this]
    · simp only [Array.getD_eq_getD_getElem?, Array.getElem?_setIfInBounds_ne (Ne.symm e)] at hy ⊢; exact hy
  intro x o ho hx e he hbe
  by_cases ej : x = j
  · subst ej
    obtain rfl : o = oj := Option.some.inj (ho.symm.trans hoj)
    have h1 := hall e he hbe
    exact up _ h1
  · refine up _ (hC x o ho ?_ e he hbe)
    simp only [Array.getD_eq_getD_getElem?, Array.getElem?_setIfInBounds_ne (Ne.symm ej)] at hx ⊢; exact hx

/-- A plain step that only yields is one within the fence. -/
theorem wpIn_of_np {o : Oper} {a : Act} {w : World} {K : Act → World → Prop} (h : o.wp P a w K NP) : o.wpIn Fence.wide n P a w K Q := by
  unfold Oper.wp at h
  refine ⟨fun _ _ => trivial, ?_⟩
  rw [show Fence.wide.round = none from rfl, Oper.semAt_none]
  generalize (execOp a.eval o).run P w = r at *
  cases r with
  | ok x w' =>
    cases x <;> simp only [Oper.upon, Oper.uponIn] at h ⊢
    case value u => exact h
    case skip => exact h
    case defer d => exact h
    case enter f args =>
      refine ⟨fun h => (by cases h), callsIn_wide.2 (Calls.mono h fun e w'' he => ?_)⟩
      cases e with
      | returned u => exact he
      | panicked c => exact he.elim
      | outgrown => obtain ⟨_, _, h⟩ := he; exact False.elim h
    case row row args => exact ⟨fun h => (by cases h), fun c cs _ => let ⟨v, w', r, s⟩ := h c cs; ⟨v, w', r, stepsIn_wide.2 s⟩⟩
    all_goals exact h.elim
  | halt x w' => cases x <;> simp only [Oper.upon] at h <;> exact h.elim

theorem wpOpIn_unput {j : Nat} {oi oj : Oper} {v : Value} (hj : ops[j]? = some oj) (hap : oi.apart ops oj = true)
    (hsi : ∀ cs b, oi.op ≠ .select cs b) (hsj : ∀ cs b, oj.op ≠ .select cs b)
    (hQ : ∀ c a w, Q (.panic c) (a.put oi.dst v) w → Q (.panic c) a w) {K : Act → World → Prop} {a : Act} {w : World}
    (hy : StepW P ops S oi v a.tmps) (h : wpOpIn Fence.wide n P ops Q j K (a.put oi.dst v) w) :
    wpOpIn Fence.wide n P ops Q j (fun a' w' => StepW P ops S oi v a'.tmps ∧ K (a'.put oi.dst v) w') a w := by
  obtain ⟨h1, h2, h3⟩ := Oper.apart_spec hap
  have keep : ∀ (a : Act), StepW P ops S oi v a.tmps → ∀ u, StepW P ops S oi v (a.put oj.dst u).tmps := fun a hy u => hy.put hsi h3 (fun t ht e => h2 t e ht)
  unfold wpOpIn at *
  simp only [hj] at *
  rw [wanted_put oj a oi.dst v h1, about_put oj w a oi.dst v h1] at h
  split
  · rename_i hw
    simp only [hw, if_true] at h
    unfold Oper.wpIn at *
    rw [about_put oj w a oi.dst v h1] at h
    refine ⟨h.1, ?_⟩
    have h := h.2
    rw [show Fence.wide.round = none from rfl, Oper.semAt_none, execOp_put oj hsj a oi.dst v h1] at h
    rw [show Fence.wide.round = none from rfl, Oper.semAt_none]
    generalize (execOp a.eval oj).run P w = r at *
    cases r with
    | ok x w' =>
      cases x <;> simp only [Oper.uponIn] at h ⊢
      case value u => exact ⟨keep a hy u, by rw [← Act.put_comm a v u h2]; exact h⟩
      case skip => exact ⟨keep a hy _, by rw [← Act.put_comm a v undef h2]; exact h⟩
      case defer d =>
        refine ⟨keep { a with defers := d :: a.defers } hy _, ?_⟩
        rw [← Act.put_comm _ v undef h2, ← Act.put_defers]
        exact h
      case enter f args =>
        refine ⟨h.1, CallsIn.mono h.2 fun e w'' he => ?_⟩
        cases e with
        | returned u => exact ⟨keep a hy u, by rw [← Act.put_comm a v u h2]; exact he⟩
        | panicked c => exact hQ _ _ _ he
        | outgrown => exact he
      case row row args => exact ⟨h.1, RowsIn.mono h.2 fun u w'' he => ⟨keep a hy u, by rw [← Act.put_comm a v u h2]; exact he⟩⟩
      case round l f tmps assign body =>
        refine ⟨h.1, RoundIn.mono h.2 fun e w'' he => ?_⟩
        cases e with
        | returned u => exact ⟨keep a hy u, by rw [← Act.put_comm a v u h2]; exact he⟩
        | panicked c => exact hQ _ _ _ he
        | outgrown => exact he
    | halt x w' =>
      cases x <;> simp only [Oper.uponIn] at h ⊢
      case panic u => exact hQ _ _ _ h
  · rename_i hw
    simp only [hw] at h
    exact ⟨h.1, keep a hy _, by rw [← Act.put_comm a v undef h2]; exact h.2⟩

theorem wpWI_first {i : Nat} {oi : Oper} {v : Value} {l : List Nat} (hin : ∀ (x : Nat) (o : Oper), ops[x]? = some o → ∀ e ∈ o.after, e.on < ops.size) (hlt : ∀ i ∈ l, i < ops.size) (hanc : ancB md ops b [] l = true) (hil : i ∈ l) (hi : ops[i]? = some oi) (hsel : ∀ (j : Nat) (o : Oper) cs b, ops[j]? = some o → o.op ≠ .select cs b)
    (hQ : ∀ c a w, Q (.panic c) (a.put oi.dst v) w → Q (.panic c) a w) :
    ∀ (f : Nat) (listed : Array Bool) (a : Act) (w : World), Closed md ops listed → listed.size = ops.size →
      (∀ j oj, ops[j]? = some oj → j ≠ i → listed.getD j true = false → (∀ e ∈ oj.after, Region.binds md e = true → e.on ≠ i) → oi.apart ops oj = true) →
      i ∈ Region.ready md ops listed → StepW P ops S oi v a.tmps →
      wpWI b n P md ops Q S f (listed.setIfInBounds i true) (a.put oi.dst v) w → wpWI b n P md ops Q S (f + 1) listed a w := by
  have here : ∀ (f : Nat) (listed : Array Bool) (a : Act) (w w' : World), StepW P ops S oi v a.tmps → Gr w w' → S w' → wpWI b n P md ops Q S f (listed.setIfInBounds i true) (a.put oi.dst v) w →
      wpOpIn Fence.wide n P ops Q i (fun a' w'' => S w'' ∧ wpWI b n P md ops Q S f (listed.setIfInBounds i true) a' w'') a w' := by
    intro f listed a w w' hy hg hS H
    unfold wpOpIn
    simp only [hi]
    rcases hy with ⟨hw, hst⟩ | ⟨hw, rfl⟩
    · simp only [hw, if_true]
      refine wpIn_of_np (Oper.wp_mono (fun a' w'' hh => ?_) (hst a.defers w' hS))
      exact ⟨hh.2.1, by rw [hh.1]; exact wpWI_up H (hg.trans hh.2.2)⟩
    · simp only [hw]
      exact ⟨fun _ _ => trivial, hS, wpWI_up H hg⟩
  intro f
  induction f with
  | zero =>
    intro listed a w hC hsz _ hr hy H w' hg hS
    refine .inr ⟨fun h => (by rw [h] at hr; cases hr), fun j hj => ?_⟩
    by_cases hji : j = i
    · subst hji; exact here 0 listed a w w' hy hg hS H
    · have h1 := ready_mono hj hji
      rw [(H w' hg hS).1] at h1
      cases h1
  | succ f ih =>
    intro listed a w hC hsz hfree hr hy H w' hg hS
    refine .inr ⟨fun h => (by rw [h] at hr; cases hr), fun j hj => ?_⟩
    by_cases hji : j = i
    · subst hji; exact here (f + 1) listed a w w' hy hg hS H
    · rcases H w' hg hS with hst | hgo
      · have h1 := ready_mono hj hji
        rw [hst.1] at h1
        obtain rfl : j = b := by simpa using h1
        have h2 := hC.anc hsz hj l [] hlt (fun x hx => by cases hx) hanc i hil
        have h3 := (mem_ready.1 hr).1
        have h4 : i < listed.size := by rw [hsz]; exact hlt i hil
        simp [h4] at h2 h3
        rw [h2] at h3; cases h3
      have h1 := hgo.2 j (ready_mono hj hji)
      obtain ⟨hjun, oj, hoj, hall⟩ := mem_ready.1 hj
      have hnot : ∀ e ∈ oj.after, Region.binds md e = true → e.on ≠ i := fun e he hb heq => by
        have h1 := hall e he hb
        have h0 := (mem_ready.1 hr).1
        rw [heq] at h1
        rcases Nat.lt_or_ge i listed.size with h' | h'
        · simp [h'] at h0 h1; rw [h0] at h1; cases h1
        · simp [Array.getElem?_eq_none h'] at h1
      have h2 := wpOpIn_unput hoj (hfree j oj hoj hji hjun hnot) (fun cs b => hsel i oi cs b hi) (fun cs b => hsel j oj cs b hoj) hQ hy h1
      refine wpOpIn_mono (fun a' w'' hh => ⟨hh.2.1, ?_⟩) h2
      refine ih (listed.setIfInBounds j true) a' w'' (hC.add hsz hj hin) (by simpa using hsz) (fun k ok hk hki hun hno => ?_) (ready_mono hr (Ne.symm hji)) hh.1 ?_
      · refine hfree k ok hk hki ?_ hno
        by_cases hkj : k = j
        · subst hkj; exact hjun
        · rwa [getD_set_ne true (Ne.symm hkj)] at hun
      · rw [Array.setIfInBounds_comm _ _ hji]
        exact hh.2.2

/-- What is asked of the text. -/
def statB (md : Region.Mode) (ops : Array Oper) (b : Nat) (l : List Nat) (listed : Array Bool) : Bool :=
  ((List.range ops.size).all fun x => (ops[x]?.map fun o => o.after.all fun e => decide (e.on < ops.size) && (!(listed.getD x false) || !(Region.binds md e) || listed.getD e.on false)).getD true) && (l.all fun i => decide (i < ops.size)) && ancB md ops b [] l && listed.size == ops.size
theorem statB_spec {l : List Nat} {listed : Array Bool} (h : statB md ops b l listed = true) : (∀ (x : Nat) (o : Oper), ops[x]? = some o → ∀ e ∈ o.after, e.on < ops.size) ∧ (∀ i ∈ l, i < ops.size) ∧ ancB md ops b [] l = true ∧ Closed md ops listed ∧ listed.size = ops.size := by
  unfold statB at h
  simp only [Bool.and_eq_true] at h
  obtain ⟨⟨⟨h1, h2⟩, h3⟩, h4⟩ := h
  have key : ∀ (x : Nat) (o : Oper), ops[x]? = some o → ∀ e ∈ o.after, e.on < ops.size ∧ (listed.getD x false = true → Region.binds md e = true → listed.getD e.on false = true) := fun x o ho e he => by
    have := List.all_eq_true.1 h1 x (List.mem_range.2 (Array.getElem?_eq_some_iff.1 ho).1)
    rw [ho] at this
    simp only [Option.map_some, Option.getD_some, Array.all_eq_true'] at this
    have := this e he
    simp only [Bool.and_eq_true, decide_eq_true_eq, Bool.or_eq_true, Bool.not_eq_true'] at this
    refine ⟨this.1, fun hx hb => ?_⟩
    rcases this.2 with (h | h) | h
    · rw [hx] at h; cases h
    · rw [hb] at h; cases h
    · exact h
  refine ⟨fun x o ho e he => (key x o ho e he).1, fun i hi => ?_, h3, fun x o ho hx e he hb => (key x o ho e he).2 hx hb, by simpa using h4⟩
  have := List.all_eq_true.1 h2 i hi
  simpa using this
/-- TAKE i FIRST. -/
theorem wpWI_det {f : Nat} {listed l2 : Array Bool} {a : Act} {t' : Array Value} {w : World} (i : Nat) {l : List Nat} (hst : statB md ops b l listed = true) (hil : i ∈ l) {oi : Oper} (hi : ops[i]? = some oi) (hs : selB ops = true) (hQ : PanicFree Q) (hb : firstB md ops listed i = true)
    (hw : Region.wanted oi (yielded ops a.tmps) = true)
    (h : ∀ ds w, S w → ∀ K : Act → World → Prop, (∀ w', S w' → Gr w w' → K { tmps := t', defers := ds } w') → oi.wp P { tmps := a.tmps, defers := ds } w K NP)
    (ha : (a.put oi.dst ((oi.dst.map fun d => t'.getD d undef).getD undef)).tmps = t') (hl : listed.setIfInBounds i true = l2)
    (H : wpWI b n P md ops Q S f l2 { tmps := t', defers := a.defers } w) : wpWI b n P md ops Q S (f + 1) listed a w := by
  unfold firstB at hb
  simp only [Bool.and_eq_true, List.all_eq_true, List.mem_range, Bool.or_eq_true, List.contains_iff_mem] at hb
  subst hl
  obtain ⟨hin, hlt, hanc, hC, hsz⟩ := statB_spec hst
  refine wpWI_first hin hlt hanc hil hi (sel_of hs) (fun c a w => hQ c a _ _ w) f listed a w hC hsz (fun j oj hj hji hun hno => ?_) hb.1 (v := (oi.dst.map fun d => t'.getD d undef).getD undef) (.inl ⟨hw, fun ds w hS => ?_⟩) ?_
  · rcases hb.2 j (Array.getElem?_eq_some_iff.1 hj).1 with ((h1 | h1) | h1) | h1
    · exact absurd (by simpa using h1) hji
    · rw [h1] at hun; cases hun
    · obtain ⟨o', ho', e, he, hbe, hon⟩ := Region.waitsFor_spec h1
      obtain rfl : o' = oj := Option.some.inj (ho'.symm.trans hj)
      exact absurd hon (hno e he hbe)
    · rw [hi, hj] at h1; exact h1
  · refine h ds w hS _ fun w' hS' hg => ⟨?_, hS', hg⟩
    rw [put_tmps a.tmps ds]
    congr 1
    refine ha.symm.trans ?_
    cases oi.dst <;> rfl
  · have e : a.put oi.dst ((oi.dst.map fun d => t'.getD d undef).getD undef) = { tmps := t', defers := a.defers } := by
      have e0 : ∀ x : Act, x.tmps = t' → x.defers = a.defers → x = { tmps := t', defers := a.defers } := by rintro ⟨_, _⟩ rfl rfl; rfl
      exact e0 _ ha (by cases oi.dst <;> rfl)
    rw [e]; exact H
/-- Here the kit's walk goes on. -/
theorem wpWI_stop {f : Nat} {listed : Array Bool} {a : Act} {w : World} (hr : Region.ready md ops listed = [b]) (h : ∀ w', Gr w w' → S w' → wpAnyIn Fence.wide n P md ops Q (f + 1) listed a w') : wpWI b n P md ops Q S (f + 1) listed a w :=
  fun w' hg hS => .inl ⟨hr, h w' hg hS⟩
/-- A REGION THAT DRAWS ITS ORDER, WITHIN AN ITERATOR. -/
theorem wpIn_region_w {id : Nat} {l : List Oper} {a : Act} {w : World} (b : Nat) (S : World → Prop) (hm : P.follows .mixedOrders = true) (hS : S w.drew)
    (h : wpWI b n P .any l.toArray (NQ Q) S l.length (Array.replicate l.length false) a w.drew) : (Code.region id l.toArray true).wpIn Fence.wide n P Q a w :=
  Code.wpIn_mono (Q := NQ Q) (fun e a w h => by cases e <;> first | exact h | exact h.elim) (wpIn_region_any (Q := NQ Q) hm (by simpa using wpAnyIn_of_wpWI _ _ _ _ h hS))
end
end Go.Proofs.YtfgeipapmdhneaaDoor
