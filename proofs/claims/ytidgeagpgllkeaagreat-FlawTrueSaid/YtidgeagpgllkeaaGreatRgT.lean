/- A region that draws its order, walked in the order of the text: each operation but the last ones yields a value that does not hang on the world, as long as the world meets S, and leaves a world that meets S. -/
import Derived.Orders
import Derived.StillTail
import Derived.Tactics
import Derived.KernelRfl
import Derived.Below
namespace Go.Proofs.YtidgeagpgllkeaaGreat
open Go

/-- No way out by a panic. -/
def NP : Exit → Act → World → Prop := fun _ _ _ => False

section
variable {P : Program} {ops : Array Oper} {Q : Exit → Act → World → Prop} {md : Region.Mode} {S : World → Prop} {n g : Nat}

theorem upon_np {o : Oper} {a : Act} {K : Act → World → Prop} {r : Result Next} (h : o.upon P a K NP r) : o.upon P a K Q r := by
  cases r with
  | ok x w' =>
    cases x <;> simp only [Oper.upon] at h ⊢ <;>
      first
        | exact h
        | exact Calls.mono h (fun e w'' he => by
            cases e with
            | returned v => exact he
            | panicked c => exact False.elim he
            | outgrown => obtain ⟨_, _, h⟩ := he; exact False.elim h)
  | halt x w' => cases x <;> simp only [Oper.upon] at h ⊢ <;> first | exact h | exact False.elim h
theorem wp_np {o : Oper} {a : Act} {w : World} {K : Act → World → Prop} (h : o.wp P a w K NP) : o.wp P a w K Q := upon_np h

/-- An operation yields v in every world that meets S, and S holds behind it. -/
def StepD (P : Program) (ops : Array Oper) (S : World → Prop) (o : Oper) (v : Value) (a : Act) : Prop :=
  (Region.wanted o (yielded ops a.tmps) = true ∧ ∀ w, S w → o.wp P a w (fun a' w' => a' = a.put o.dst v ∧ S w') NP) ∨
  (Region.wanted o (yielded ops a.tmps) = false ∧ v = undef)

theorem wp_put {o : Oper} {a : Act} {d : Option Tmp} {u v : Value} {w : World} (hs : ∀ cs b, o.op ≠ .select cs b) (h1 : ∀ t, d = some t → t ∉ o.looksAt ops) (h2 : ∀ t, d = some t → o.dst ≠ some t)
    (h : o.wp P a w (fun a' w' => a' = a.put o.dst v ∧ S w') NP) : o.wp P (a.put d u) w (fun a' w' => a' = (a.put d u).put o.dst v ∧ S w') NP := by
  unfold Oper.wp at *
  rw [execOp_put o hs a d u h1]
  generalize (execOp a.eval o).run P w = r at *
  have e : ∀ x, (a.put d u).put o.dst x = (a.put o.dst x).put d u := fun x => Act.put_comm a u x h2
  cases r with
  | ok m w' =>
    cases m <;> simp only [Oper.upon] at h ⊢
    case value x => exact ⟨by rw [e, e, h.1], h.2⟩
    case skip => exact ⟨by rw [e, e, h.1], h.2⟩
    case defer x =>
      refine ⟨?_, h.2⟩
      rw [Act.put_defers, Act.put_comm _ u undef h2, h.1, e]
    case enter f args =>
      refine Calls.mono h fun e' w'' he => ?_
      cases e' with
      | returned x => exact ⟨by rw [e, e, he.1], he.2⟩
      | panicked c => exact he
      | outgrown => obtain ⟨_, _, h⟩ := he; exact False.elim h
    case row row args => exact Rows.mono h fun x w'' he => ⟨by rw [e, e, he.1], he.2⟩
  | halt x w' => cases x <;> simp only [Oper.upon] at h ⊢ <;> exact h

theorem StepD.put {o : Oper} {v u : Value} {a : Act} {d : Option Tmp} (h : StepD P ops S o v a) (hs : ∀ cs b, o.op ≠ .select cs b) (h1 : ∀ t, d = some t → t ∉ o.looksAt ops) (h2 : ∀ t, d = some t → o.dst ≠ some t) :
    StepD P ops S o v (a.put d u) := by
  unfold StepD at *
  rw [wanted_put o a d u h1]
  rcases h with ⟨hw, h⟩ | h
  · exact .inl ⟨hw, fun w hS => wp_put hs h1 h2 (h w hS)⟩
  · exact .inr h

/-- The other way round: what an operation does does not hang on a slot that it neither looks at nor writes. -/
theorem StepD.unput {o : Oper} {v u : Value} {a : Act} {d : Option Tmp} (h : StepD P ops S o v (a.put d u)) (hs : ∀ cs b, o.op ≠ .select cs b) (h1 : ∀ t, d = some t → t ∉ o.looksAt ops) (h2 : ∀ t, d = some t → o.dst ≠ some t) :
    StepD P ops S o v a := by
  -- write the old value back
  have hback : (a.put d u).put d (match d with | some t => a.tmps.getD t undef | none => undef) = a := by
    cases d with
    | none => rfl
    | some t =>
      simp only [Act.put]
      congr 1
      apply Array.ext
      · simp
      · intro i hi1 hi2
        by_cases hti : t = i
        · subst hti
          have : t < a.tmps.size := by simpa using hi2
          simp [this]
        · apply Option.some.inj
          rw [← Array.getElem?_eq_getElem, ← Array.getElem?_eq_getElem, Array.getElem?_setIfInBounds_ne hti, Array.getElem?_setIfInBounds_ne hti]
  rw [← hback]
  exact h.put hs h1 h2

/-- Whatever order is picked for the first n operations: each yields its value, and the rest goes on behind them. -/
def wpD (P : Program) (md : Region.Mode) (ops : Array Oper) (Q : Exit → Act → World → Prop) (S : World → Prop) (n g : Nat) : Nat → Array Bool → Act → Prop
  | 0, listed, a => (∀ k, k < n → listed.getD k true = true) ∧ ∀ w, S w → wpAny P md ops Q g listed a w
  | f + 1, listed, a => Region.ready md ops listed ≠ [] ∧ ∀ i ∈ Region.ready md ops listed, i < n ∧ ∃ o v, ops[i]? = some o ∧ StepD P ops S o v a ∧ wpD P md ops Q S n g f (listed.setIfInBounds i true) (a.put o.dst v)

theorem wpAny_of_wpD : ∀ (f : Nat) (listed : Array Bool) (a : Act), wpD P md ops Q S n g f listed a → ∀ w, S w → wpAny P md ops Q (f + g) listed a w
  | 0, listed, a, h, w, hS => by rw [Nat.zero_add]; exact h.2 w hS
  | f + 1, listed, a, h, w, hS => by
    rw [show f + 1 + g = (f + g) + 1 by omega]
    refine ⟨fun h0 => absurd h0 h.1, fun i hi => ?_⟩
    obtain ⟨_, o, v, ho, hst, hrest⟩ := h.2 i hi
    unfold wpOp
    simp only [ho]
    rcases hst with ⟨hw, hst⟩ | ⟨hw, rfl⟩
    · simp only [hw, if_true]
      refine .inl (Oper.wp_mono (fun a' w' hh => ?_) (wp_np (hst w hS)))
      rw [hh.1]
      exact wpAny_of_wpD f _ _ hrest w' hh.2
    · simp only [hw]
      exact wpAny_of_wpD f _ _ hrest w hS

theorem wpD_first {i : Nat} {oi : Oper} {v : Value} (hi : ops[i]? = some oi) (hin : i < n) (hsel : ∀ (j : Nat) (o : Oper) cs b, ops[j]? = some o → o.op ≠ .select cs b)
    (HT : ∀ listed, HeadInv md ops n listed → ∀ k ∈ Region.ready md ops listed, n ≤ k → ∀ j, j < n → listed.getD j true = true) :
    ∀ (f : Nat) (listed : Array Bool) (a : Act), HeadInv md ops n listed →
      (∀ j oj, ops[j]? = some oj → j ≠ i → listed.getD j true = false → (∀ e ∈ oj.after, Region.binds md e = true → e.on ≠ i) → oi.apart ops oj = true) →
      i ∈ Region.ready md ops listed → StepD P ops S oi v a →
      wpD P md ops Q S n g f (listed.setIfInBounds i true) (a.put oi.dst v) → wpD P md ops Q S n g (f + 1) listed a := by
  intro f
  induction f with
  | zero =>
    intro listed a hinv _ hr hy H
    refine ⟨fun h => (by rw [h] at hr; cases hr), fun j hj => ?_⟩
    have hji : j = i := by
      apply Classical.byContradiction
      intro hji
      by_cases hjn : j < n
      · have h1 := H.1 j hjn
        rw [getD_set_ne true (Ne.symm hji), (mem_ready.1 hj).1] at h1
        cases h1
      · have h1 := HT listed hinv j hj (by omega) i hin
        rw [(mem_ready.1 hr).1] at h1
        cases h1
    subst hji
    exact ⟨hin, oi, v, hi, hy, H⟩
  | succ f ih =>
    intro listed a hinv hfree hr hy H
    refine ⟨fun h => (by rw [h] at hr; cases hr), fun j hj => ?_⟩
    by_cases hji : j = i
    · subst hji; exact ⟨hin, oi, v, hi, hy, H⟩
    · obtain ⟨hjn, oj, vj, hoj, hstj, hrest⟩ := H.2 j (ready_mono hj hji)
      obtain ⟨hjun, oj', hoj', hall⟩ := mem_ready.1 hj
      obtain rfl : oj' = oj := Option.some.inj (hoj'.symm.trans hoj)
      have hnot : ∀ e ∈ oj'.after, Region.binds md e = true → e.on ≠ i := fun e he hb heq => by
        have h1 := hall e he hb
        have h0 := (mem_ready.1 hr).1
        rw [heq] at h1
        rcases Nat.lt_or_ge i listed.size with h' | h'
        · simp [h'] at h0 h1; rw [h0] at h1; cases h1
        · simp [Array.getElem?_eq_none h'] at h1
      obtain ⟨a1, a2, a3⟩ := Oper.apart_spec (hfree j oj' hoj hji hjun hnot)
      refine ⟨hjn, oj', vj, hoj, hstj.unput (fun cs b => hsel j oj' cs b hoj) a1 (fun t ht => a2 t ht), ?_⟩
      refine ih (listed.setIfInBounds j true) (a.put oj'.dst vj) (hinv.set hj hjn) (fun k ok hk hki hun hno => ?_) (ready_mono hr (Ne.symm hji)) (hy.put (fun cs b => hsel i oi cs b hi) a3 (fun t ht e => a2 t e ht)) ?_
      · refine hfree k ok hk hki ?_ hno
        by_cases hkj : k = j
        · subst hkj; exact hjun
        · rwa [getD_set_ne true (Ne.symm hkj)] at hun
      · rw [← Act.put_comm a v vj a2, Array.setIfInBounds_comm _ _ hji]
        exact hrest

/-- The first k operations are listed. -/
def upTo (m : Nat) : Nat → Array Bool
  | 0 => Array.replicate m false
  | k + 1 => (upTo m k).setIfInBounds k true
theorem upTo_size (m : Nat) : ∀ k, (upTo m k).size = m
  | 0 => by simp [upTo]
  | k + 1 => by simp [upTo, upTo_size m k]
theorem upTo_get (m : Nat) : ∀ (k j : Nat) (d : Bool), j < m → (upTo m k).getD j d = decide (j < k)
  | 0, j, d, h => by simp [upTo, h]
  | k + 1, j, d, h => by
    unfold upTo
    by_cases hkj : k = j
    · subst hkj
      have : k < (upTo m k).size := by rw [upTo_size]; exact h
      simp [this]
    · rw [getD_set_ne d hkj, upTo_get m k j d h]
      by_cases h' : j < k
      · simp [h']; omega
      · simp [h']; omega

/-- WHAT IS ASKED OF THE REGION's TEXT: each operation waits for earlier ones alone; of two of the first n ones either the later one waits for the earlier one, or they are apart; each later one waits for the one ahead of it; the first n ones come ahead of the others; no select. -/
def textB (md : Region.Mode) (ops : Array Oper) (n : Nat) : Bool :=
  decide (n ≤ ops.size) &&
  (List.range ops.size).all (fun i => match ops[i]? with
    | some o => o.after.all (fun e => !Region.binds md e || decide (e.on < i)) && (match o.op with | .select .. => false | _ => true)
    | none => false) &&
  (List.range n).all (fun i => (List.range ops.size).all fun j => decide (j ≤ i) || Region.waitsFor md ops j i || (match ops[i]?, ops[j]? with | some x, some y => x.apart ops y | _, _ => false)) &&
  (decide (n = ops.size) || (Region.sinkB md ops n && Region.chainB md ops n))

/-- The steps of the text, one behind the other. -/
def StepsD (P : Program) (ops : Array Oper) (S : World → Prop) (L : Act → Prop) : List Oper → Act → Prop
  | [], a => L a
  | o :: l, a => ∃ v, StepD P ops S o v a ∧ StepsD P ops S L l (a.put o.dst v)

structure TextOk (md : Region.Mode) (ops : Array Oper) (n : Nat) : Prop where
  le : n ≤ ops.size
  deps : ∀ i o, ops[i]? = some o → ∀ e ∈ o.after, Region.binds md e = true → e.on < i
  sel : ∀ (j : Nat) (o : Oper) cs b, ops[j]? = some o → o.op ≠ .select cs b
  free : ∀ i j x y, i < n → i < j → ops[i]? = some x → ops[j]? = some y → Region.waitsFor md ops j i = false → x.apart ops y = true
  tail : n = ops.size ∨ (Region.sinkB md ops n = true ∧ Region.chainB md ops n = true)

theorem textOk_of {md : Region.Mode} {ops : Array Oper} {n : Nat} (h : textB md ops n = true) : TextOk md ops n := by
  unfold textB at h
  simp only [Bool.and_eq_true, decide_eq_true_eq, List.all_eq_true, List.mem_range, Bool.or_eq_true] at h
  obtain ⟨⟨⟨h1, h2⟩, h3⟩, h4⟩ := h
  have lt : ∀ {i o}, ops[i]? = some o → i < ops.size := fun ho => (Array.getElem?_eq_some_iff.1 ho).1
  refine ⟨h1, fun i o ho e he hb => ?_, fun j o cs b ho he => ?_, fun i j x y hin hij hx hy hw => ?_, h4⟩
  · have := h2 i (lt ho)
    rw [ho] at this
    simp only [Bool.and_eq_true, Array.all_eq_true_iff_forall_mem, Bool.or_eq_true] at this
    have h5 := this.1 e he
    simp [hb] at h5
    exact h5
  · have := h2 j (lt ho)
    rw [ho] at this
    simp [he] at this
  · have := h3 i hin j (lt hy)
    rw [hx, hy, hw] at this
    simp at this
    rcases this with h | h
    · omega
    · exact h

theorem ready_upTo {n k : Nat} (T : TextOk md ops n) (hk : k < ops.size) : k ∈ Region.ready md ops (upTo ops.size k) := by
  obtain ⟨o, ho⟩ : ∃ o, ops[k]? = some o := ⟨ops[k], Array.getElem?_eq_getElem hk⟩
  refine mem_ready.2 ⟨by rw [upTo_get _ _ _ _ hk]; simp, o, ho, fun e he hb => ?_⟩
  have := T.deps k o ho e he hb
  rw [upTo_get _ _ _ _ (by omega)]
  simp [this]

theorem headInv_upTo {n k : Nat} (T : TextOk md ops n) (hk : k ≤ n) : HeadInv md ops n (upTo ops.size k) := by
  refine ⟨upTo_size _ _, fun j oj hj hl e he hb => ?_, fun t ht ht' => ?_⟩
  · have h1 := T.deps j oj hj e he hb
    have hj' : j < ops.size := (Array.getElem?_eq_some_iff.1 hj).1
    rw [upTo_get _ _ _ _ hj'] at hl
    rw [upTo_get _ _ _ _ (by omega)]
    simp at hl ⊢
    omega
  · rw [upTo_get _ _ _ _ ht']
    simp; omega

theorem tails_wait {n : Nat} (T : TextOk md ops n) : ∀ listed, HeadInv md ops n listed → ∀ k ∈ Region.ready md ops listed, n ≤ k → ∀ j, j < n → listed.getD j true = true := by
  intro listed hinv k hk hnk j hj
  have hks : k < ops.size := by
    obtain ⟨_, o, ho, _⟩ := mem_ready.1 hk
    exact (Array.getElem?_eq_some_iff.1 ho).1
  rcases T.tail with h | ⟨h1, h2⟩
  · omega
  · cases hl : listed.getD j true with
    | true => rfl
    | false => exact absurd hk (tail_waits h1 h2 (by omega) hinv (n - j) j rfl hj hl k hnk)

theorem wpD_of_steps {n g : Nat} (T : TextOk md ops n) : ∀ (d k : Nat) (a : Act), k + d = n →
    StepsD P ops S (fun a' => ∀ w, S w → wpAny P md ops Q g (upTo ops.size n) a' w) ((ops.toList.drop k).take d) a → wpD P md ops Q S n g d (upTo ops.size k) a
  | 0, k, a, hk, h => by
    obtain rfl : k = n := by omega
    simp only [List.take_zero] at h
    exact ⟨fun j hj => by rw [upTo_get _ _ _ _ (by have := T.le; omega)]; simp [hj], h⟩
  | d + 1, k, a, hk, h => by
    have hks : k < ops.size := by have := T.le; omega
    have ho : ops[k]? = some ops[k] := Array.getElem?_eq_getElem hks
    rw [List.drop_eq_getElem_cons (by simpa using hks), List.take_succ_cons] at h
    obtain ⟨v, hst, hrest⟩ := h
    simp only [Array.getElem_toList] at hst hrest
    refine wpD_first ho (by omega) T.sel (tails_wait T) d _ _ (headInv_upTo T (by omega)) (fun j oj hj hjk hun hno => ?_) (ready_upTo T hks) hst (wpD_of_steps T d (k + 1) _ (by omega) hrest)
    have hjs : j < ops.size := (Array.getElem?_eq_some_iff.1 hj).1
    rw [upTo_get _ _ _ _ hjs] at hun
    simp at hun
    refine T.free k j _ _ (by omega) (by omega) ho hj ?_
    unfold Region.waitsFor
    rw [hj]
    simp only [Array.any_eq_false', Bool.and_eq_true, beq_iff_eq, not_and]
    exact fun e he hb => hno e he hb

/-- The last operations, one behind the other. -/
theorem wpAny_of_tail {n : Nat} (T : TextOk md ops n) : ∀ (d k : Nat) (a : Act) (w : World), k + d = ops.size → n ≤ k → wpList P ops Q (ops.toList.drop k) a w → wpAny P md ops Q d (upTo ops.size k) a w
  | 0, k, a, w, hk, _, h => by
    rw [List.drop_eq_nil_of_le (by simp; omega)] at h
    refine ⟨?_, h⟩
    apply List.eq_nil_iff_forall_not_mem.2
    intro j hj
    obtain ⟨hu, o, ho, _⟩ := mem_ready.1 hj
    have hjs : j < ops.size := (Array.getElem?_eq_some_iff.1 ho).1
    rw [upTo_get _ _ _ _ hjs] at hu
    simp at hu
    omega
  | d + 1, k, a, w, hk, hnk, h => by
    have hks : k < ops.size := by omega
    have ho : ops[k]? = some ops[k] := Array.getElem?_eq_getElem hks
    have hr := ready_upTo T hks
    rw [List.drop_eq_getElem_cons (by simpa using hks)] at h
    simp only [Array.getElem_toList] at h
    refine ⟨fun h0 => (by rw [h0] at hr; cases hr), fun j hj => ?_⟩
    have hjk : j = k := by
      apply Classical.byContradiction
      intro hjk
      obtain ⟨hu, o, hoj, hall⟩ := mem_ready.1 hj
      have hjs : j < ops.size := (Array.getElem?_eq_some_iff.1 hoj).1
      rw [upTo_get _ _ _ _ hjs] at hu
      simp at hu
      rcases T.tail with h' | ⟨_, hc⟩
      · omega
      · unfold Region.chainB at hc
        have h1 := List.all_eq_true.1 hc j (List.mem_range.2 hjs)
        simp only [Bool.or_eq_true, decide_eq_true_eq] at h1
        rcases h1 with h1 | h1
        · omega
        · obtain ⟨o', ho', e, he, hb, hon⟩ := Region.waitsFor_spec h1
          obtain rfl : o' = o := Option.some.inj (ho'.symm.trans hoj)
          have h2 := hall e he hb
          rw [hon, upTo_get _ _ _ _ (by omega)] at h2
          simp at h2
          omega
    subst hjk
    unfold wpOp
    simp only [ho]
    unfold wpList at h
    split
    · rename_i hw
      simp only [hw, if_true] at h
      exact h.imp (Oper.wp_mono fun a' w' hh => wpAny_of_tail T d (j + 1) a' w' (by omega) (by omega) hh) id
    · rename_i hw
      simp only [hw] at h
      exact wpAny_of_tail T d (j + 1) _ _ (by omega) (by omega) h

/-- ████ A REGION THAT DRAWS ITS ORDER, IN THE ORDER OF THE TEXT ████ -/
theorem wp_region_text {id : Nat} {l : List Oper} {a : Act} {w : World} (n : Nat) (S : World → Prop) (hm : P.follows .mixedOrders = true) (hT : textB .any l.toArray n = true) (hS : S w.drew)
    (h : StepsD P l.toArray S (fun a' => ∀ w', S w' → wpList P l.toArray Q (l.drop n) a' w') (l.take n) a) : (Code.region id l.toArray true).wp P Q a w := by
  have T := textOk_of hT
  refine wp_region_any hm ?_
  have hle := T.le
  have h1 := wpAny_of_wpD (P := P) (Q := Q) (S := S) (n := n) (g := l.toArray.size - n) (md := .any) n (upTo l.toArray.size 0) a (wpD_of_steps T n 0 a (by omega) ?_) w.drew hS
  · rw [show n + (l.toArray.size - n) = l.toArray.size by omega] at h1
    exact h1
  · have hmono : ∀ (l' : List Oper) (a : Act), StepsD P l.toArray S (fun a' => ∀ w', S w' → wpList P l.toArray Q (l.drop n) a' w') l' a →
        StepsD P l.toArray S (fun a' => ∀ w, S w → wpAny P .any l.toArray Q (l.toArray.size - n) (upTo l.toArray.size n) a' w) l' a := by
      intro l'
      induction l' with
      | nil => intro a h w hS; exact wpAny_of_tail T _ n a w (by omega) (Nat.le_refl _) (h w hS)
      | cons o l' ih => intro a ⟨v, hst, hr⟩; exact ⟨v, hst, ih _ hr⟩
    simpa using hmono _ _ h

/-- One step that is carried out. -/
theorem StepsD.run {L : Act → Prop} {o : Oper} {l : List Oper} {a a' : Act} (hw : Region.wanted o (yielded ops a.tmps) = true)
    (h : ∀ w, S w → ∀ K : Act → World → Prop, (∀ w', S w' → K a' w') → o.wp P a w K NP)
    (ha : a.put o.dst ((o.dst.map fun d => a'.tmps.getD d undef).getD undef) = a') (hr : StepsD P ops S L l a') : StepsD P ops S L (o :: l) a :=
  ⟨_, .inl ⟨hw, fun w hS => h w hS _ fun _ hS' => ⟨ha.symm, hS'⟩⟩, by rw [ha]; exact hr⟩
/-- One step that is passed over. -/
theorem StepsD.pass {L : Act → Prop} {o : Oper} {l : List Oper} {a a' : Act} (hw : Region.wanted o (yielded ops a.tmps) = false) (ha : a.put o.dst undef = a')
    (hr : StepsD P ops S L l a') : StepsD P ops S L (o :: l) a :=
  ⟨undef, .inr ⟨hw, rfl⟩, by rw [ha]; exact hr⟩
theorem StepsD.done {L : Act → Prop} {a : Act} (h : L a) : StepsD P ops S L [] a := h

open Go.RowKit in
/-- The same, S being: below the heap's end nothing has turned. -/
theorem wp_region_b {id : Nat} {l : List Oper} {a : Act} {w : World} (n : Nat) (hm : P.follows .mixedOrders = true) (hT : textB .any l.toArray n = true)
    (h : StepsD P l.toArray (Below w.heap.size w) (fun a' => ∀ w', Below w.heap.size w w' → wpList P l.toArray Q (l.drop n) a' w') (l.take n) a) : (Code.region id l.toArray true).wp P Q a w :=
  wp_region_text n _ hm hT (Below.refl _ _).drew h
end
end Go.Proofs.YtidgeagpgllkeaaGreat
