/- A region that draws its order: what yields its value in every world that meets S (and makes at most new memory) is taken first; the rest is branched over. -/
import Derived.Test.YtidgeagpgllkeaaGreatRgT
namespace Go.Proofs.YtidgeagpgllkeaaGreat
open Go Go.RowKit

/-- The world has at most grown: nothing that was there has turned. -/
abbrev Gr (w w' : World) : Prop := Below w.heap.size w w'
theorem Gr.refl (w : World) : Gr w w := Below.refl _ _
theorem Gr.trans {a b c : World} (h : Gr a b) (k : Gr b c) : Gr a c := Below.trans h (Below.mono k (Below.size h))

section
variable {P : Program} {ops : Array Oper} {Q : Exit → Act → World → Prop} {md : Region.Mode} {S : World → Prop}

/-- Whatever order is picked from here on, in whatever world that has grown since. -/
def wpW (P : Program) (md : Region.Mode) (ops : Array Oper) (Q : Exit → Act → World → Prop) (S : World → Prop) : Nat → Array Bool → Act → World → Prop
  | 0, listed, a, w => ∀ w', Gr w w' → S w' → Region.ready md ops listed = [] ∧ Q .normal a w'
  | f + 1, listed, a, w => ∀ w', Gr w w' → S w' → (Region.ready md ops listed = [] → Q .normal a w') ∧
      ∀ i ∈ Region.ready md ops listed, wpOp P ops Q i (fun a' w'' => S w'' ∧ wpW P md ops Q S f (listed.setIfInBounds i true) a' w'') a w'

theorem wpW_up {f : Nat} {listed : Array Bool} {a : Act} {w w1 : World} (h : wpW P md ops Q S f listed a w) (hg : Gr w w1) : wpW P md ops Q S f listed a w1 := by
  cases f with
  | zero => exact fun w' h1 hS => h w' (hg.trans h1) hS
  | succ f => exact fun w' h1 hS => h w' (hg.trans h1) hS

theorem wpAny_of_wpW : ∀ (f : Nat) (listed : Array Bool) (a : Act) (w : World), wpW P md ops Q S f listed a w → S w → wpAny P md ops Q f listed a w
  | 0, _, _, w, h, hS => h w (Gr.refl w) hS
  | f + 1, _, _, w, h, hS => ⟨(h w (Gr.refl w) hS).1, fun i hi => wpOp_mono (fun a' w' hh => wpAny_of_wpW f _ a' w' hh.2 hh.1) ((h w (Gr.refl w) hS).2 i hi)⟩

/-- An operation yields v in every world that meets S; the world grows at most, and meets S. (Whatever is deferred.) -/
def StepW (P : Program) (ops : Array Oper) (S : World → Prop) (o : Oper) (v : Value) (t : Array Value) : Prop :=
  (Region.wanted o (yielded ops t) = true ∧ ∀ ds w, S w → o.wp P { tmps := t, defers := ds } w (fun a' w' => a' = Act.put { tmps := t, defers := ds } o.dst v ∧ (S w' ∧ Gr w w')) NP) ∨
  (Region.wanted o (yielded ops t) = false ∧ v = undef)

theorem put_tmps (t : Array Value) (ds : List Deferred) (d : Option Tmp) (v : Value) : Act.put { tmps := t, defers := ds } d v = { tmps := (Act.put { tmps := t, defers := [] } d v).tmps, defers := ds } := by
  cases d <;> rfl

theorem StepW.put {o : Oper} {v u : Value} {a : Act} {d : Option Tmp} (h : StepW P ops S o v a.tmps) (hs : ∀ cs b, o.op ≠ .select cs b) (h1 : ∀ t, d = some t → t ∉ o.looksAt ops) (h2 : ∀ t, d = some t → o.dst ≠ some t) :
    StepW P ops S o v (a.put d u).tmps := by
  have hw := wanted_put o a d u h1
  unfold StepW at *
  rw [hw]
  rcases h with ⟨hw, h⟩ | h
  · refine .inl ⟨hw, fun ds w hS => ?_⟩
    have h3 := wp_put (S := fun w' => S w' ∧ Gr w w') (d := d) (u := u) hs h1 h2 (h ds w hS)
    have e : ({ tmps := (a.put d u).tmps, defers := ds } : Act) = Act.put { tmps := a.tmps, defers := ds } d u := by cases d <;> rfl
    rw [e]
    exact h3
  · exact .inr h

/-- What an operation does does not hang on a slot that it neither looks at nor writes: oj ahead of oi. -/
theorem wpOp_unput {j : Nat} {oi oj : Oper} {v : Value} (hj : ops[j]? = some oj) (hap : oi.apart ops oj = true) {K : Act → World → Prop} {a : Act} {w : World} (hsi : ∀ cs b, oi.op ≠ .select cs b) (hsj : ∀ cs b, oj.op ≠ .select cs b)
    (hQ : ∀ c a w, Q (.panic c) (a.put oi.dst v) w → Q (.panic c) a w) (hy : StepW P ops S oi v a.tmps)
    (h : wpOp P ops Q j K (a.put oi.dst v) w) : wpOp P ops Q j (fun a' w' => StepW P ops S oi v a'.tmps ∧ K (a'.put oi.dst v) w') a w := by
  obtain ⟨h1, h2, h3⟩ := Oper.apart_spec hap
  have keep : ∀ (a : Act), StepW P ops S oi v a.tmps → ∀ x, StepW P ops S oi v (a.put oj.dst x).tmps := fun a hy x => hy.put hsi h3 (fun t ht e => h2 t e ht)
  have e : ∀ x, (a.put oj.dst x).put oi.dst v = (a.put oi.dst v).put oj.dst x := fun x => (Act.put_comm a v x h2).symm
  unfold wpOp at *
  simp only [hj] at *
  rw [wanted_put oj a oi.dst v h1] at h
  split
  · rename_i hw
    simp only [hw, if_true] at h
    rcases h with h | ⟨hasks, hlets⟩
    case inr => exact .inr ⟨by unfold Oper.asks at *; rw [execOp_put oj hsj a oi.dst v h1] at hasks; exact hasks, hlets⟩
    refine .inl ?_
    unfold Oper.wp at *
    rw [execOp_put oj hsj a oi.dst v h1] at h
    generalize (execOp a.eval oj).run P w = r at *
    cases r with
    | ok n w' =>
      cases n <;> simp only [Oper.upon] at h ⊢
      case value x => exact ⟨keep a hy x, by rw [e]; exact h⟩
      case skip => exact ⟨keep a hy undef, by rw [e]; exact h⟩
      case defer x =>
        refine ⟨keep { a with defers := x :: a.defers } hy undef, ?_⟩
        rw [← Act.put_comm _ v undef h2, ← Act.put_defers]
        exact h
      case enter f args =>
        refine Calls.mono h fun e' w'' he => ?_
        cases e' with
        | returned x => exact ⟨keep a hy x, by rw [e]; exact he⟩
        | panicked c => exact hQ _ _ _ he
        | outgrown => exact he
      case row row args => exact Rows.mono h fun x w'' he => ⟨keep a hy x, by rw [e]; exact he⟩
    | halt x w' =>
      cases x <;> simp only [Oper.upon] at h ⊢
      case panic x => exact hQ _ _ _ h
  · rename_i hw
    simp only [hw] at h
    exact ⟨keep a hy undef, by rw [e]; exact h⟩

theorem wpW_first {i : Nat} {oi : Oper} {v : Value} (hi : ops[i]? = some oi) (hsel : ∀ (j : Nat) (o : Oper) cs b, ops[j]? = some o → o.op ≠ .select cs b)
    (hQ : ∀ c a w, Q (.panic c) (a.put oi.dst v) w → Q (.panic c) a w) :
    ∀ (f : Nat) (listed : Array Bool) (a : Act) (w : World),
      (∀ j oj, ops[j]? = some oj → j ≠ i → listed.getD j true = false → (∀ e ∈ oj.after, Region.binds md e = true → e.on ≠ i) → oi.apart ops oj = true) →
      i ∈ Region.ready md ops listed → StepW P ops S oi v a.tmps →
      wpW P md ops Q S f (listed.setIfInBounds i true) (a.put oi.dst v) w → wpW P md ops Q S (f + 1) listed a w := by
  have here : ∀ (f : Nat) (listed : Array Bool) (a : Act) (w w' : World), StepW P ops S oi v a.tmps → Gr w w' → S w' → wpW P md ops Q S f (listed.setIfInBounds i true) (a.put oi.dst v) w →
      wpOp P ops Q i (fun a' w'' => S w'' ∧ wpW P md ops Q S f (listed.setIfInBounds i true) a' w'') a w' := by
    intro f listed a w w' hy hg hS H
    unfold wpOp
    simp only [hi]
    rcases hy with ⟨hw, hst⟩ | ⟨hw, rfl⟩
    · simp only [hw, if_true]
      refine .inl (Oper.wp_mono (fun a' w'' hh => ?_) (wp_np (hst a.defers w' hS)))
      exact ⟨hh.2.1, by rw [hh.1]; exact wpW_up H (hg.trans hh.2.2)⟩
    · simp only [hw]
      exact ⟨hS, wpW_up H hg⟩
  intro f
  induction f with
  | zero =>
    intro listed a w _ hr hy H w' hg hS
    refine ⟨fun h => (by rw [h] at hr; cases hr), fun j hj => ?_⟩
    by_cases hji : j = i
    · subst hji; exact here 0 listed a w w' hy hg hS H
    · have h1 := ready_mono hj hji
      rw [(H w' hg hS).1] at h1
      cases h1
  | succ f ih =>
    intro listed a w hfree hr hy H w' hg hS
    refine ⟨fun h => (by rw [h] at hr; cases hr), fun j hj => ?_⟩
    by_cases hji : j = i
    · subst hji; exact here (f + 1) listed a w w' hy hg hS H
    · have h1 := (H w' hg hS).2 j (ready_mono hj hji)
      obtain ⟨hjun, oj, hoj, hall⟩ := mem_ready.1 hj
      have hnot : ∀ e ∈ oj.after, Region.binds md e = true → e.on ≠ i := fun e he hb heq => by
        have h1 := hall e he hb
        have h0 := (mem_ready.1 hr).1
        rw [heq] at h1
        rcases Nat.lt_or_ge i listed.size with h' | h'
        · simp [h'] at h0 h1; rw [h0] at h1; cases h1
        · simp [Array.getElem?_eq_none h'] at h1
      have h2 := wpOp_unput hoj (hfree j oj hoj hji hjun hnot) (fun cs b => hsel i oi cs b hi) (fun cs b => hsel j oj cs b hoj) hQ hy h1
      refine wpOp_mono (fun a' w'' hh => ⟨hh.2.1, ?_⟩) h2
      refine ih (listed.setIfInBounds j true) a' w'' (fun k ok hk hki hun hno => ?_) (ready_mono hr (Ne.symm hji)) hh.1 ?_
      · refine hfree k ok hk hki ?_ hno
        by_cases hkj : k = j
        · subst hkj; exact hjun
        · rwa [getD_set_ne true (Ne.symm hkj)] at hun
      · rw [Array.setIfInBounds_comm _ _ hji]
        exact hh.2.2

/-- What is asked of the text to take i first. -/
def firstB (md : Region.Mode) (ops : Array Oper) (listed : Array Bool) (i : Nat) : Bool :=
  (Region.ready md ops listed).contains i &&
  (List.range ops.size).all fun j => j == i || listed.getD j true || Region.waitsFor md ops j i || (match ops[i]?, ops[j]? with | some x, some y => x.apart ops y | _, _ => false)
def selB (ops : Array Oper) : Bool := (List.range ops.size).all fun i => match ops[i]? with
  | some o => (match o.op with | .select .. => false | _ => true)
  | none => true

theorem sel_of {ops : Array Oper} (h : selB ops = true) (j : Nat) (o : Oper) (cs : Array SelectCase) (b : Bool) (ho : ops[j]? = some o) : o.op ≠ .select cs b := by
  intro he
  unfold selB at h
  have := List.all_eq_true.1 h j (List.mem_range.2 (Array.getElem?_eq_some_iff.1 ho).1)
  rw [ho] at this
  simp [he] at this

/-- Does the post hang on the frame at a panic? -/
def PanicFree (Q : Exit → Act → World → Prop) : Prop := ∀ c (a : Act) (d : Option Tmp) (v : Value) w, Q (.panic c) (a.put d v) w → Q (.panic c) a w

/-- TAKE i FIRST. -/
theorem wpW_det {f : Nat} {listed l2 : Array Bool} {a : Act} {t' : Array Value} {w : World} (i : Nat) {oi : Oper} (hi : ops[i]? = some oi) (hs : selB ops = true) (hQ : PanicFree Q) (hb : firstB md ops listed i = true)
    (hw : Region.wanted oi (yielded ops a.tmps) = true)
    (h : ∀ ds w, S w → ∀ K : Act → World → Prop, (∀ w', S w' → Gr w w' → K { tmps := t', defers := ds } w') → oi.wp P { tmps := a.tmps, defers := ds } w K NP)
    (ha : (a.put oi.dst ((oi.dst.map fun d => t'.getD d undef).getD undef)).tmps = t') (hl : listed.setIfInBounds i true = l2)
    (H : wpW P md ops Q S f l2 { tmps := t', defers := a.defers } w) : wpW P md ops Q S (f + 1) listed a w := by
  unfold firstB at hb
  simp only [Bool.and_eq_true, List.all_eq_true, List.mem_range, Bool.or_eq_true, List.contains_iff_mem] at hb
  subst hl
  refine wpW_first hi (sel_of hs) (fun c a w => hQ c a _ _ w) f listed a w (fun j oj hj hji hun hno => ?_) hb.1 (v := (oi.dst.map fun d => t'.getD d undef).getD undef) (.inl ⟨hw, fun ds w hS => ?_⟩) ?_
  · rcases hb.2 j (Array.getElem?_eq_some_iff.1 hj).1 with ((h1 | h1) | h1) | h1
    · exact absurd (by simpa using h1) hji
    · rw [h1] at hun; cases hun
    · obtain ⟨o', ho', e, he, hbe, hon⟩ := Region.waitsFor_spec h1
      obtain rfl : o' = oj := Option.some.inj (ho'.symm.trans hj)
      exact absurd hon (hno e he hbe)
    · rw [hi, hj] at h1; exact h1
  · refine h ds w hS _ fun w' hS' hg => ⟨?_, hS', hg⟩
    rw [put_tmps a.tmps ds]
    congr 1
    refine ha.symm.trans ?_
    cases oi.dst <;> rfl
  · have e : a.put oi.dst ((oi.dst.map fun d => t'.getD d undef).getD undef) = { tmps := t', defers := a.defers } := by
      have e0 : ∀ x : Act, x.tmps = t' → x.defers = a.defers → x = { tmps := t', defers := a.defers } := by rintro ⟨_, _⟩ rfl rfl; rfl
      exact e0 _ ha (by cases oi.dst <;> rfl)
    rw [e]; exact H
theorem wpW_pass {f : Nat} {listed l2 : Array Bool} {a a' : Act} {w : World} (i : Nat) {oi : Oper} (hi : ops[i]? = some oi) (hs : selB ops = true) (hQ : PanicFree Q) (hb : firstB md ops listed i = true)
    (hw : Region.wanted oi (yielded ops a.tmps) = false) (ha : a.put oi.dst undef = a') (hl : listed.setIfInBounds i true = l2)
    (H : wpW P md ops Q S f l2 a' w) : wpW P md ops Q S (f + 1) listed a w := by
  unfold firstB at hb
  simp only [Bool.and_eq_true, List.all_eq_true, List.mem_range, Bool.or_eq_true, List.contains_iff_mem] at hb
  subst hl
  refine wpW_first hi (sel_of hs) (fun c a w => hQ c a _ _ w) f listed a w (fun j oj hj hji hun hno => ?_) hb.1 (v := undef) (.inr ⟨hw, rfl⟩) (by rw [ha]; exact H)
  rcases hb.2 j (Array.getElem?_eq_some_iff.1 hj).1 with ((h1 | h1) | h1) | h1
  · exact absurd (by simpa using h1) hji
  · rw [h1] at hun; cases hun
  · obtain ⟨o', ho', e, he, hbe, hon⟩ := Region.waitsFor_spec h1
    obtain rfl : o' = oj := Option.some.inj (ho'.symm.trans hj)
    exact absurd hon (hno e he hbe)
  · rw [hi, hj] at h1; exact h1

/-- BRANCH OVER what may come up; each in whatever world has grown since. -/
theorem wpW_branch {f : Nat} {listed : Array Bool} {a : Act} {w : World} (rs : List Nat) (hr : Region.ready md ops listed = rs) (hne : rs ≠ [])
    (h : ∀ w', Gr w w' → S w' → ∀ i ∈ rs, wpOp P ops Q i (fun a' w'' => S w'' ∧ wpW P md ops Q S f (listed.setIfInBounds i true) a' w'') a w') : wpW P md ops Q S (f + 1) listed a w := by
  intro w' hg hS
  rw [hr]
  exact ⟨fun h0 => absurd h0 hne, h w' hg hS⟩
theorem each_nil {p : Nat → Prop} : ∀ i ∈ ([] : List Nat), p i := fun _ h => by cases h
theorem each_cons {p : Nat → Prop} {i : Nat} {l : List Nat} (h : p i) (hl : ∀ j ∈ l, p j) : ∀ j ∈ i :: l, p j := fun j hj => by
  rcases List.mem_cons.1 hj with rfl | hj
  · exact h
  · exact hl j hj
/-- One operation of the branching that is carried out. -/
theorem wpOp_go {f i : Nat} {listed l2 : Array Bool} {a : Act} {w : World} {o : Oper} (ho : ops[i]? = some o) (hl : listed.setIfInBounds i true = l2) (hw : Region.wanted o (yielded ops a.tmps) = true)
    (h : ∀ K : Act → World → Prop, (∀ a' w', S w' → wpW P md ops Q S f l2 a' w' → K a' w') → o.wp P a w K Q) :
    wpOp P ops Q i (fun a' w'' => S w'' ∧ wpW P md ops Q S f (listed.setIfInBounds i true) a' w'') a w := by
  unfold wpOp
  simp only [ho, hw, if_true]
  subst hl
  exact .inl (h _ fun a' w' hS hW => ⟨hS, hW⟩)
theorem wpW_end {listed : Array Bool} {a : Act} {w : World} (hr : Region.ready md ops listed = []) (h : ∀ w', Gr w w' → S w' → Q .normal a w') : wpW P md ops Q S 0 listed a w :=
  fun w' hg hS => ⟨hr, h w' hg hS⟩

/-- Only the straight way out. -/
def NQ (Q : Exit → Act → World → Prop) : Exit → Act → World → Prop := fun e a w => match e with
  | .normal => Q .normal a w
  | _ => False
theorem NQ_free (Q : Exit → Act → World → Prop) : PanicFree (NQ Q) := fun _ _ _ _ _ h => h

/-- ████ A REGION THAT DRAWS ITS ORDER ████ -/
theorem wp_region_w {id : Nat} {l : List Oper} {a : Act} {w : World} (S : World → Prop) (hm : P.follows .mixedOrders = true) (hS : S w.drew)
    (h : wpW P .any l.toArray (NQ Q) S l.length (Array.replicate l.length false) a w.drew) : (Code.region id l.toArray true).wp P Q a w :=
  Code.wp_mono (Q := NQ Q) (fun e a w h => by cases e <;> first | exact h | exact h.elim) (wp_region_any (Q := NQ Q) hm (by simpa using wpAny_of_wpW _ _ _ _ h hS))
end
end Go.Proofs.YtidgeagpgllkeaaGreat
