/- A region that draws its order, walked in the order of the text: each operation but the last ones yields a value that does not hang on the world, as long as the world meets S, and leaves a world that meets S. A region that draws its order: what yields its value in every world that meets S (and makes at most new memory) is taken first; the rest is branched over. A region of a function by its number: lemmas on single regions. -/
import Derived.Orders
import Derived.StillTail
import Derived.Tactics
import Derived.KernelRfl
import Derived.Below
namespace Go.Proofs.YtmdbpkomanhpoaaGreatDoor
open Go

/-- No way out by a panic. -/
def NP : Exit → Act → World → Prop := fun _ _ _ => False

section
variable {P : Program} {ops : Array Oper} {Q : Exit → Act → World → Prop} {md : Region.Mode} {S : World → Prop} {n g : Nat}

theorem upon_np {o : Oper} {a : Act} {K : Act → World → Prop} {r : Result Next} (h : o.upon P a K NP r) : o.upon P a K Q r := by
  cases r with
  | ok x w' =>
    cases x <;> simp only [Oper.upon] at h ⊢ <;>
      first
        | exact h
        | exact Calls.mono h (fun e w'' he => by
            cases e with
            | returned v => exact he
            | panicked c => exact False.elim he
            | outgrown => obtain ⟨_, _, h⟩ := he; exact False.elim h)
  | halt x w' => cases x <;> simp only [Oper.upon] at h ⊢ <;> first | exact h | exact False.elim h
theorem wp_np {o : Oper} {a : Act} {w : World} {K : Act → World → Prop} (h : o.wp P a w K NP) : o.wp P a w K Q := upon_np h

/-- An operation yields v in every world that meets S, and S holds behind it. -/
def StepD (P : Program) (ops : Array Oper) (S : World → Prop) (o : Oper) (v : Value) (a : Act) : Prop :=
  (Region.wanted o (yielded ops a.tmps) = true ∧ ∀ w, S w → o.wp P a w (fun a' w' => a' = a.put o.dst v ∧ S w') NP) ∨
  (Region.wanted o (yielded ops a.tmps) = false ∧ v = undef)

theorem wp_put {o : Oper} {a : Act} {d : Option Tmp} {u v : Value} {w : World} (hs : ∀ cs b, o.op ≠ .select cs b) (h1 : ∀ t, d = some t → t ∉ o.looksAt ops) (h2 : ∀ t, d = some t → o.dst ≠ some t)
    (h : o.wp P a w (fun a' w' => a' = a.put o.dst v ∧ S w') NP) : o.wp P (a.put d u) w (fun a' w' => a' = (a.put d u).put o.dst v ∧ S w') NP := by
  unfold Oper.wp at *
  rw [execOp_put o hs a d u h1]
  generalize (execOp a.eval o).run P w = r at *
  have e : ∀ x, (a.put d u).put o.dst x = (a.put o.dst x).put d u := fun x => Act.put_comm a u x h2
  cases r with
  | ok m w' =>
    cases m <;> simp only [Oper.upon] at h ⊢
    case value x => exact ⟨by rw [e, e, h.1], h.2⟩
    case skip => exact ⟨by rw [e, e, h.1], h.2⟩
    case defer x =>
      refine ⟨?_, h.2⟩
      rw [Act.put_defers, Act.put_comm _ u undef h2, h.1, e]
    case enter f args =>
      refine Calls.mono h fun e' w'' he => ?_
      cases e' with
      | returned x => exact ⟨by rw [e, e, he.1], he.2⟩
      | panicked c => exact he
      | outgrown => obtain ⟨_, _, h⟩ := he; exact False.elim h
    case row row args => exact Rows.mono h fun x w'' he => ⟨by rw [e, e, he.1], he.2⟩
  | halt x w' => cases x <;> simp only [Oper.upon] at h ⊢ <;> exact h

theorem StepD.put {o : Oper} {v u : Value} {a : Act} {d : Option Tmp} (h : StepD P ops S o v a) (hs : ∀ cs b, o.op ≠ .select cs b) (h1 : ∀ t, d = some t → t ∉ o.looksAt ops) (h2 : ∀ t, d = some t → o.dst ≠ some t) :
    StepD P ops S o v (a.put d u) := by
  unfold StepD at *
  rw [wanted_put o a d u h1]
  rcases h with ⟨hw, h⟩ | h
  · exact .inl ⟨hw, fun w hS => wp_put hs h1 h2 (h w hS)⟩
  · exact .inr h

/-- The other way round: what an operation does does not hang on a slot that it neither looks at nor writes. -/
theorem StepD.unput {o : Oper} {v u : Value} {a : Act} {d : Option Tmp} (h : StepD P ops S o v (a.put d u)) (hs : ∀ cs b, o.op ≠ .select cs b) (h1 : ∀ t, d = some t → t ∉ o.looksAt ops) (h2 : ∀ t, d = some t → o.dst ≠ some t) :
    StepD P ops S o v a := by
  -- write the old value back
  have hback : (a.put d u).put d (match d with | some t => a.tmps.getD t undef | none => undef) = a := by
    cases d with
    | none => rfl
    | some t =>
      simp only [Act.put]
      congr 1
      apply Array.ext
      · simp
      · intro i hi1 hi2
        by_cases hti : t = i
        · subst hti
          have : t < a.tmps.size := by simpa using hi2
          simp [this]
        · apply Option.some.inj
          rw [← Array.getElem?_eq_getElem, ← Array.getElem?_eq_getElem, Array.getElem?_setIfInBounds_ne hti, Array.getElem?_setIfInBounds_ne hti]
  rw [← hback]
  exact h.put hs h1 h2

/-- Whatever order is picked for the first n operations: each yields its value, and the rest goes on behind them. -/
def wpD (P : Program) (md : Region.Mode) (ops : Array Oper) (Q : Exit → Act → World → Prop) (S : World → Prop) (n g : Nat) : Nat → Array Bool → Act → Prop
  | 0, listed, a => (∀ k, k < n → listed.getD k true = true) ∧ ∀ w, S w → wpAny P md ops Q g listed a w
  | f + 1, listed, a => Region.ready md ops listed ≠ [] ∧ ∀ i ∈ Region.ready md ops listed, i < n ∧ ∃ o v, ops[i]? = some o ∧ StepD P ops S o v a ∧ wpD P md ops Q S n g f (listed.setIfInBounds i true) (a.put o.dst v)

theorem wpAny_of_wpD : ∀ (f : Nat) (listed : Array Bool) (a : Act), wpD P md ops Q S n g f listed a → ∀ w, S w → wpAny P md ops Q (f + g) listed a w
  | 0, listed, a, h, w, hS => by rw [Nat.zero_add]; exact h.2 w hS
  | f + 1, listed, a, h, w, hS => by
    rw [show f + 1 + g = (f + g) + 1 by omega]
    refine ⟨fun h0 => absurd h0 h.1, fun i hi => ?_⟩
    obtain ⟨_, o, v, ho, hst, hrest⟩ := h.2 i hi
    unfold wpOp
    simp only [ho]
    rcases hst with ⟨hw, hst⟩ | ⟨hw, rfl⟩
    · simp only [hw, if_true]
      refine .inl (Oper.wp_mono (fun a' w' hh => ?_) (wp_np (hst w hS)))
      rw [hh.1]
      exact wpAny_of_wpD f _ _ hrest w' hh.2
    · simp only [hw]
      exact wpAny_of_wpD f _ _ hrest w hS

theorem wpD_first {i : Nat} {oi : Oper} {v : Value} (hi : ops[i]? = some oi) (hin : i < n) (hsel : ∀ (j : Nat) (o : Oper) cs b, ops[j]? = some o → o.op ≠ .select cs b)
    (HT : ∀ listed, HeadInv md ops n listed → ∀ k ∈ Region.ready md ops listed, n ≤ k → ∀ j, j < n → listed.getD j true = true) :
    ∀ (f : Nat) (listed : Array Bool) (a : Act), HeadInv md ops n listed →
      (∀ j oj, ops[j]? = some oj → j ≠ i → listed.getD j true = false → (∀ e ∈ oj.after, Region.binds md e = true → e.on ≠ i) → oi.apart ops oj = true) →
      i ∈ Region.ready md ops listed → StepD P ops S oi v a →
      wpD P md ops Q S n g f (listed.setIfInBounds i true) (a.put oi.dst v) → wpD P md ops Q S n g (f + 1) listed a := by
  intro f
  induction f with
  | zero =>
    intro listed a hinv _ hr hy H
    refine ⟨fun h => (by rw [h] at hr; cases hr), fun j hj => ?_⟩
    have hji : j = i := by
      apply Classical.byContradiction
      intro hji
      by_cases hjn : j < n
      · have h1 := H.1 j hjn
        rw [getD_set_ne true (Ne.symm hji), (mem_ready.1 hj).1] at h1
        cases h1
      · have h1 := HT listed hinv j hj (by omega) i hin
        rw [(mem_ready.1 hr).1] at h1
        cases h1
    subst hji
    exact ⟨hin, oi, v, hi, hy, H⟩
  | succ f ih =>
    intro listed a hinv hfree hr hy H
    refine ⟨fun h => (by rw [h] at hr; cases hr), fun j hj => ?_⟩
    by_cases hji : j = i
    · subst hji; exact ⟨hin, oi, v, hi, hy, H⟩
    · obtain ⟨hjn, oj, vj, hoj, hstj, hrest⟩ := H.2 j (ready_mono hj hji)
      obtain ⟨hjun, oj', hoj', hall⟩ := mem_ready.1 hj
      obtain rfl : oj' = oj := Option.some.inj (hoj'.symm.trans hoj)
      have hnot : ∀ e ∈ oj'.after, Region.binds md e = true → e.on ≠ i := fun e he hb heq => by
        have h1 := hall e he hb
        have h0 := (mem_ready.1 hr).1
        rw [heq] at h1
        rcases Nat.lt_or_ge i listed.size with h' | h'
        · simp [h'] at h0 h1; rw [h0] at h1; cases h1
        · simp [Array.getElem?_eq_none h'] at h1
      obtain ⟨a1, a2, a3⟩ := Oper.apart_spec (hfree j oj' hoj hji hjun hnot)
      refine ⟨hjn, oj', vj, hoj, hstj.unput (fun cs b => hsel j oj' cs b hoj) a1 (fun t ht => a2 t ht), ?_⟩
      refine ih (listed.setIfInBounds j true) (a.put oj'.dst vj) (hinv.set hj hjn) (fun k ok hk hki hun hno => ?_) (ready_mono hr (Ne.symm hji)) (hy.put (fun cs b => hsel i oi cs b hi) a3 (fun t ht e => a2 t e ht)) ?_
      · refine hfree k ok hk hki ?_ hno
        by_cases hkj : k = j
        · subst hkj; exact hjun
        · rwa [getD_set_ne true (Ne.symm hkj)] at hun
      · rw [← Act.put_comm a v vj a2, Array.setIfInBounds_comm _ _ hji]
        exact hrest

/-- The first k operations are listed. -/
def upTo (m : Nat) : Nat → Array Bool
  | 0 => Array.replicate m false
  | k + 1 => (upTo m k).setIfInBounds k true
theorem upTo_size (m : Nat) : ∀ k, (upTo m k).size = m
  | 0 => by simp [upTo]
  | k + 1 => by simp [upTo, upTo_size m k]
theorem upTo_get (m : Nat) : ∀ (k j : Nat) (d : Bool), j < m → (upTo m k).getD j d = decide (j < k)
  | 0, j, d, h => by simp [upTo, h]
  | k + 1, j, d, h => by
    unfold upTo
    by_cases hkj : k = j
    · subst hkj
      have : k < (upTo m k).size := by rw [upTo_size]; exact h
      simp [this]
    · rw [getD_set_ne d hkj, upTo_get m k j d h]
      by_cases h' : j < k
      · simp [h']; omega
      · simp [h']; omega

/-- WHAT IS ASKED OF THE REGION's TEXT: each operation waits for earlier ones alone; of two of the first n ones either the later one waits for the earlier one, or they are apart; each later one waits for the one ahead of it; the first n ones come ahead of the others; no select. -/
def textB (md : Region.Mode) (ops : Array Oper) (n : Nat) : Bool :=
  decide (n ≤ ops.size) &&
  (List.range ops.size).all (fun i => match ops[i]? with
    | some o => o.after.all (fun e => !Region.binds md e || decide (e.on < i)) && (match o.op with | .select .. => false | _ => true)
    | none => false) &&
  (List.range n).all (fun i => (List.range ops.size).all fun j => decide (j ≤ i) || Region.waitsFor md ops j i || (match ops[i]?, ops[j]? with | some x, some y => x.apart ops y | _, _ => false)) &&
  (decide (n = ops.size) || (Region.sinkB md ops n && Region.chainB md ops n))

/-- The steps of the text, one behind the other. -/
def StepsD (P : Program) (ops : Array Oper) (S : World → Prop) (L : Act → Prop) : List Oper → Act → Prop
  | [], a => L a
  | o :: l, a => ∃ v, StepD P ops S o v a ∧ StepsD P ops S L l (a.put o.dst v)

structure TextOk (md : Region.Mode) (ops : Array Oper) (n : Nat) : Prop where
  le : n ≤ ops.size
  deps : ∀ i o, ops[i]? = some o → ∀ e ∈ o.after, Region.binds md e = true → e.on < i
  sel : ∀ (j : Nat) (o : Oper) cs b, ops[j]? = some o → o.op ≠ .select cs b
  free : ∀ i j x y, i < n → i < j → ops[i]? = some x → ops[j]? = some y → Region.waitsFor md ops j i = false → x.apart ops y = true
  tail : n = ops.size ∨ (Region.sinkB md ops n = true ∧ Region.chainB md ops n = true)

theorem textOk_of {md : Region.Mode} {ops : Array Oper} {n : Nat} (h : textB md ops n = true) : TextOk md ops n := by
  unfold textB at h
  simp only [Bool.and_eq_true, decide_eq_true_eq, List.all_eq_true, List.mem_range, Bool.or_eq_true] at h
  obtain ⟨⟨⟨h1, h2⟩, h3⟩, h4⟩ := h
  have lt : ∀ {i o}, ops[i]? = some o → i < ops.size := fun ho => (Array.getElem?_eq_some_iff.1 ho).1
  refine ⟨h1, fun i o ho e he hb => ?_, fun j o cs b ho he => ?_, fun i j x y hin hij hx hy hw => ?_, h4⟩
  · have := h2 i (lt ho)
    rw [ho] at this
    simp only [Bool.and_eq_true, Array.all_eq_true_iff_forall_mem, Bool.or_eq_true] at this
    have h5 := this.1 e he
    simp [hb] at h5
    exact h5
  · have := h2 j (lt ho)
    rw [ho] at this
    simp [he] at this
  · have := h3 i hin j (lt hy)
    rw [hx, hy, hw] at this
    simp at this
    rcases this with h | h
    · omega
    · exact h

theorem ready_upTo {n k : Nat} (T : TextOk md ops n) (hk : k < ops.size) : k ∈ Region.ready md ops (upTo ops.size k) := by
  obtain ⟨o, ho⟩ : ∃ o, ops[k]? = some o := ⟨ops[k], Array.getElem?_eq_getElem hk⟩
  refine mem_ready.2 ⟨by rw [upTo_get _ _ _ _ hk]; simp, o, ho, fun e he hb => ?_⟩
  have := T.deps k o ho e he hb
  rw [upTo_get _ _ _ _ (by omega)]
  simp [this]

theorem headInv_upTo {n k : Nat} (T : TextOk md ops n) (hk : k ≤ n) : HeadInv md ops n (upTo ops.size k) := by
  refine ⟨upTo_size _ _, fun j oj hj hl e he hb => ?_, fun t ht ht' => ?_⟩
  · have h1 := T.deps j oj hj e he hb
    have hj' : j < ops.size := (Array.getElem?_eq_some_iff.1 hj).1
    rw [upTo_get _ _ _ _ hj'] at hl
    rw [upTo_get _ _ _ _ (by omega)]
    simp at hl ⊢
    omega
  · rw [upTo_get _ _ _ _ ht']
    simp; omega

theorem tails_wait {n : Nat} (T : TextOk md ops n) : ∀ listed, HeadInv md ops n listed → ∀ k ∈ Region.ready md ops listed, n ≤ k → ∀ j, j < n → listed.getD j true = true := by
  intro listed hinv k hk hnk j hj
  have hks : k < ops.size := by
    obtain ⟨_, o, ho, _⟩ := mem_ready.1 hk
    exact (Array.getElem?_eq_some_iff.1 ho).1
  rcases T.tail with h | ⟨h1, h2⟩
  · omega
  · cases hl : listed.getD j true with
    | true => rfl
    | false => exact absurd hk (tail_waits h1 h2 (by omega) hinv (n - j) j rfl hj hl k hnk)

theorem wpD_of_steps {n g : Nat} (T : TextOk md ops n) : ∀ (d k : Nat) (a : Act), k + d = n →
    StepsD P ops S (fun a' => ∀ w, S w → wpAny P md ops Q g (upTo ops.size n) a' w) ((ops.toList.drop k).take d) a → wpD P md ops Q S n g d (upTo ops.size k) a
  | 0, k, a, hk, h => by
    obtain rfl : k = n := by omega
    simp only [List.take_zero] at h
    exact ⟨fun j hj => by rw [upTo_get _ _ _ _ (by have := T.le; omega)]; simp [hj], h⟩
  | d + 1, k, a, hk, h => by
    have hks : k < ops.size := by have := T.le; omega
    have ho : ops[k]? = some ops[k] := Array.getElem?_eq_getElem hks
    rw [List.drop_eq_getElem_cons (by simpa using hks), List.take_succ_cons] at h
    obtain ⟨v, hst, hrest⟩ := h
    simp only [Array.getElem_toList] at hst hrest
    refine wpD_first ho (by omega) T.sel (tails_wait T) d _ _ (headInv_upTo T (by omega)) (fun j oj hj hjk hun hno => ?_) (ready_upTo T hks) hst (wpD_of_steps T d (k + 1) _ (by omega) hrest)
    have hjs : j < ops.size := (Array.getElem?_eq_some_iff.1 hj).1
    rw [upTo_get _ _ _ _ hjs] at hun
    simp at hun
    refine T.free k j _ _ (by omega) (by omega) ho hj ?_
    unfold Region.waitsFor
    rw [hj]
    simp only [Array.any_eq_false', Bool.and_eq_true, beq_iff_eq, not_and]
    exact fun e he hb => hno e he hb

/-- The last operations, one behind the other. -/
theorem wpAny_of_tail {n : Nat} (T : TextOk md ops n) : ∀ (d k : Nat) (a : Act) (w : World), k + d = ops.size → n ≤ k → wpList P ops Q (ops.toList.drop k) a w → wpAny P md ops Q d (upTo ops.size k) a w
  | 0, k, a, w, hk, _, h => by
    rw [List.drop_eq_nil_of_le (by simp; omega)] at h
    refine ⟨?_, h⟩
    apply List.eq_nil_iff_forall_not_mem.2
    intro j hj
    obtain ⟨hu, o, ho, _⟩ := mem_ready.1 hj
    have hjs : j < ops.size := (Array.getElem?_eq_some_iff.1 ho).1
    rw [upTo_get _ _ _ _ hjs] at hu
    simp at hu
    omega
  | d + 1, k, a, w, hk, hnk, h => by
    have hks : k < ops.size := by omega
    have ho : ops[k]? = some ops[k] := Array.getElem?_eq_getElem hks
    have hr := ready_upTo T hks
    rw [List.drop_eq_getElem_cons (by simpa using hks)] at h
    simp only [Array.getElem_toList] at h
    refine ⟨fun h0 => (by rw [h0] at hr; cases hr), fun j hj => ?_⟩
    have hjk : j = k := by
      apply Classical.byContradiction
      intro hjk
      obtain ⟨hu, o, hoj, hall⟩ := mem_ready.1 hj
      have hjs : j < ops.size := (Array.getElem?_eq_some_iff.1 hoj).1
      rw [upTo_get _ _ _ _ hjs] at hu
      simp at hu
      rcases T.tail with h' | ⟨_, hc⟩
      · omega
      · unfold Region.chainB at hc
        have h1 := List.all_eq_true.1 hc j (List.mem_range.2 hjs)
        simp only [Bool.or_eq_true, decide_eq_true_eq] at h1
        rcases h1 with h1 | h1
        · omega
        · obtain ⟨o', ho', e, he, hb, hon⟩ := Region.waitsFor_spec h1
          obtain rfl : o' = o := Option.some.inj (ho'.symm.trans hoj)
          have h2 := hall e he hb
          rw [hon, upTo_get _ _ _ _ (by omega)] at h2
          simp at h2
          omega
    subst hjk
    unfold wpOp
    simp only [ho]
    unfold wpList at h
    split
    · rename_i hw
      simp only [hw, if_true] at h
      exact h.imp (Oper.wp_mono fun a' w' hh => wpAny_of_tail T d (j + 1) a' w' (by omega) (by omega) hh) id
    · rename_i hw
      simp only [hw] at h
      exact wpAny_of_tail T d (j + 1) _ _ (by omega) (by omega) h

/-- ████ A REGION THAT DRAWS ITS ORDER, IN THE ORDER OF THE TEXT ████ -/
theorem wp_region_text {id : Nat} {l : List Oper} {a : Act} {w : World} (n : Nat) (S : World → Prop) (hm : P.follows .mixedOrders = true) (hT : textB .any l.toArray n = true) (hS : S w.drew)
    (h : StepsD P l.toArray S (fun a' => ∀ w', S w' → wpList P l.toArray Q (l.drop n) a' w') (l.take n) a) : (Code.region id l.toArray true).wp P Q a w := by
  have T := textOk_of hT
  refine wp_region_any hm ?_
  have hle := T.le
  have h1 := wpAny_of_wpD (P := P) (Q := Q) (S := S) (n := n) (g := l.toArray.size - n) (md := .any) n (upTo l.toArray.size 0) a (wpD_of_steps T n 0 a (by omega) ?_) w.drew hS
  · rw [show n + (l.toArray.size - n) = l.toArray.size by omega] at h1
    exact h1
  · have hmono : ∀ (l' : List Oper) (a : Act), StepsD P l.toArray S (fun a' => ∀ w', S w' → wpList P l.toArray Q (l.drop n) a' w') l' a →
        StepsD P l.toArray S (fun a' => ∀ w, S w → wpAny P .any l.toArray Q (l.toArray.size - n) (upTo l.toArray.size n) a' w) l' a := by
      intro l'
      induction l' with
      | nil => intro a h w hS; exact wpAny_of_tail T _ n a w (by omega) (Nat.le_refl _) (h w hS)
      | cons o l' ih => intro a ⟨v, hst, hr⟩; exact ⟨v, hst, ih _ hr⟩
    simpa using hmono _ _ h

/-- One step that is carried out. -/
theorem StepsD.run {L : Act → Prop} {o : Oper} {l : List Oper} {a a' : Act} (hw : Region.wanted o (yielded ops a.tmps) = true)
    (h : ∀ w, S w → ∀ K : Act → World → Prop, (∀ w', S w' → K a' w') → o.wp P a w K NP)
    (ha : a.put o.dst ((o.dst.map fun d => a'.tmps.getD d undef).getD undef) = a') (hr : StepsD P ops S L l a') : StepsD P ops S L (o :: l) a :=
  ⟨_, .inl ⟨hw, fun w hS => h w hS _ fun _ hS' => ⟨ha.symm, hS'⟩⟩, by rw [ha]; exact hr⟩
/-- One step that is passed over. -/
theorem StepsD.pass {L : Act → Prop} {o : Oper} {l : List Oper} {a a' : Act} (hw : Region.wanted o (yielded ops a.tmps) = false) (ha : a.put o.dst undef = a')
    (hr : StepsD P ops S L l a') : StepsD P ops S L (o :: l) a :=
  ⟨undef, .inr ⟨hw, rfl⟩, by rw [ha]; exact hr⟩
theorem StepsD.done {L : Act → Prop} {a : Act} (h : L a) : StepsD P ops S L [] a := h

open Go.RowKit in
/-- The same, S being: below the heap's end nothing has turned. -/
theorem wp_region_b {id : Nat} {l : List Oper} {a : Act} {w : World} (n : Nat) (hm : P.follows .mixedOrders = true) (hT : textB .any l.toArray n = true)
    (h : StepsD P l.toArray (Below w.heap.size w) (fun a' => ∀ w', Below w.heap.size w w' → wpList P l.toArray Q (l.drop n) a' w') (l.take n) a) : (Code.region id l.toArray true).wp P Q a w :=
  wp_region_text n _ hm hT (Below.refl _ _).drew h
end
end Go.Proofs.YtmdbpkomanhpoaaGreatDoor

namespace Go.Proofs.YtmdbpkomanhpoaaGreatDoor
open Go Go.RowKit

/-- The world has at most grown: nothing that was there has turned. -/
abbrev Gr (w w' : World) : Prop := Below w.heap.size w w'
theorem Gr.refl (w : World) : Gr w w := Below.refl _ _
theorem Gr.trans {a b c : World} (h : Gr a b) (k : Gr b c) : Gr a c := Below.trans h (Below.mono k (Below.size h))

section
variable {P : Program} {ops : Array Oper} {Q : Exit → Act → World → Prop} {md : Region.Mode} {S : World → Prop}

/-- Whatever order is picked from here on, in whatever world that has grown since. -/
def wpW (P : Program) (md : Region.Mode) (ops : Array Oper) (Q : Exit → Act → World → Prop) (S : World → Prop) : Nat → Array Bool → Act → World → Prop
  | 0, listed, a, w => ∀ w', Gr w w' → S w' → Region.ready md ops listed = [] ∧ Q .normal a w'
  | f + 1, listed, a, w => ∀ w', Gr w w' → S w' → (Region.ready md ops listed = [] → Q .normal a w') ∧
      ∀ i ∈ Region.ready md ops listed, wpOp P ops Q i (fun a' w'' => S w'' ∧ wpW P md ops Q S f (listed.setIfInBounds i true) a' w'') a w'

theorem wpW_up {f : Nat} {listed : Array Bool} {a : Act} {w w1 : World} (h : wpW P md ops Q S f listed a w) (hg : Gr w w1) : wpW P md ops Q S f listed a w1 := by
  cases f with
  | zero => exact fun w' h1 hS => h w' (hg.trans h1) hS
  | succ f => exact fun w' h1 hS => h w' (hg.trans h1) hS

theorem wpAny_of_wpW : ∀ (f : Nat) (listed : Array Bool) (a : Act) (w : World), wpW P md ops Q S f listed a w → S w → wpAny P md ops Q f listed a w
  | 0, _, _, w, h, hS => h w (Gr.refl w) hS
  | f + 1, _, _, w, h, hS => ⟨(h w (Gr.refl w) hS).1, fun i hi => wpOp_mono (fun a' w' hh => wpAny_of_wpW f _ a' w' hh.2 hh.1) ((h w (Gr.refl w) hS).2 i hi)⟩

/-- An operation yields v in every world that meets S; the world grows at most, and meets S. (Whatever is deferred.) -/
def StepW (P : Program) (ops : Array Oper) (S : World → Prop) (o : Oper) (v : Value) (t : Array Value) : Prop :=
  (Region.wanted o (yielded ops t) = true ∧ ∀ ds w, S w → o.wp P { tmps := t, defers := ds } w (fun a' w' => a' = Act.put { tmps := t, defers := ds } o.dst v ∧ (S w' ∧ Gr w w')) NP) ∨
  (Region.wanted o (yielded ops t) = false ∧ v = undef)

theorem put_tmps (t : Array Value) (ds : List Deferred) (d : Option Tmp) (v : Value) : Act.put { tmps := t, defers := ds } d v = { tmps := (Act.put { tmps := t, defers := [] } d v).tmps, defers := ds } := by
  cases d <;> rfl

theorem StepW.put {o : Oper} {v u : Value} {a : Act} {d : Option Tmp} (h : StepW P ops S o v a.tmps) (hs : ∀ cs b, o.op ≠ .select cs b) (h1 : ∀ t, d = some t → t ∉ o.looksAt ops) (h2 : ∀ t, d = some t → o.dst ≠ some t) :
    StepW P ops S o v (a.put d u).tmps := by
  have hw := wanted_put o a d u h1
  unfold StepW at *
  rw [hw]
  rcases h with ⟨hw, h⟩ | h
  · refine .inl ⟨hw, fun ds w hS => ?_⟩
    have h3 := wp_put (S := fun w' => S w' ∧ Gr w w') (d := d) (u := u) hs h1 h2 (h ds w hS)
    have e : ({ tmps := (a.put d u).tmps, defers := ds } : Act) = Act.put { tmps := a.tmps, defers := ds } d u := by cases d <;> rfl
    rw [e]
    exact h3
  · exact .inr h

/-- What an operation does does not hang on a slot that it neither looks at nor writes: oj ahead of oi. -/
theorem wpOp_unput {j : Nat} {oi oj : Oper} {v : Value} (hj : ops[j]? = some oj) (hap : oi.apart ops oj = true) {K : Act → World → Prop} {a : Act} {w : World} (hsi : ∀ cs b, oi.op ≠ .select cs b) (hsj : ∀ cs b, oj.op ≠ .select cs b)
    (hQ : ∀ c a w, Q (.panic c) (a.put oi.dst v) w → Q (.panic c) a w) (hy : StepW P ops S oi v a.tmps)
    (h : wpOp P ops Q j K (a.put oi.dst v) w) : wpOp P ops Q j (fun a' w' => StepW P ops S oi v a'.tmps ∧ K (a'.put oi.dst v) w') a w := by
  obtain ⟨h1, h2, h3⟩ := Oper.apart_spec hap
  have keep : ∀ (a : Act), StepW P ops S oi v a.tmps → ∀ x, StepW P ops S oi v (a.put oj.dst x).tmps := fun a hy x => hy.put hsi h3 (fun t ht e => h2 t e ht)
  have e : ∀ x, (a.put oj.dst x).put oi.dst v = (a.put oi.dst v).put oj.dst x := fun x => (Act.put_comm a v x h2).symm
  unfold wpOp at *
  simp only [hj] at *
  rw [wanted_put oj a oi.dst v h1] at h
  split
  · rename_i hw
    simp only [hw, if_true] at h
    rcases h with h | ⟨hasks, hlets⟩
    case inr => exact .inr ⟨by unfold Oper.asks at *; rw [execOp_put oj hsj a oi.dst v h1] at hasks; exact hasks, hlets⟩
    refine .inl ?_
    unfold Oper.wp at *
    rw [execOp_put oj hsj a oi.dst v h1] at h
    generalize (execOp a.eval oj).run P w = r at *
    cases r with
    | ok n w' =>
      cases n <;> simp only [Oper.upon] at h ⊢
      case value x => exact ⟨keep a hy x, by rw [e]; exact h⟩
      case skip => exact ⟨keep a hy undef, by rw [e]; exact h⟩
      case defer x =>
        refine ⟨keep { a with defers := x :: a.defers } hy undef, ?_⟩
        rw [← Act.put_comm _ v undef h2, ← Act.put_defers]
        exact h
      case enter f args =>
        refine Calls.mono h fun e' w'' he => ?_
        cases e' with
        | returned x => exact ⟨keep a hy x, by rw [e]; exact he⟩
        | panicked c => exact hQ _ _ _ he
        | outgrown => exact he
      case row row args => exact Rows.mono h fun x w'' he => ⟨keep a hy x, by rw [e]; exact he⟩
    | halt x w' =>
      cases x <;> simp only [Oper.upon] at h ⊢
      case panic x => exact hQ _ _ _ h
  · rename_i hw
    simp only [hw] at h
    exact ⟨keep a hy undef, by rw [e]; exact h⟩

theorem wpW_first {i : Nat} {oi : Oper} {v : Value} (hi : ops[i]? = some oi) (hsel : ∀ (j : Nat) (o : Oper) cs b, ops[j]? = some o → o.op ≠ .select cs b)
    (hQ : ∀ c a w, Q (.panic c) (a.put oi.dst v) w → Q (.panic c) a w) :
    ∀ (f : Nat) (listed : Array Bool) (a : Act) (w : World),
      (∀ j oj, ops[j]? = some oj → j ≠ i → listed.getD j true = false → (∀ e ∈ oj.after, Region.binds md e = true → e.on ≠ i) → oi.apart ops oj = true) →
      i ∈ Region.ready md ops listed → StepW P ops S oi v a.tmps →
      wpW P md ops Q S f (listed.setIfInBounds i true) (a.put oi.dst v) w → wpW P md ops Q S (f + 1) listed a w := by
  have here : ∀ (f : Nat) (listed : Array Bool) (a : Act) (w w' : World), StepW P ops S oi v a.tmps → Gr w w' → S w' → wpW P md ops Q S f (listed.setIfInBounds i true) (a.put oi.dst v) w →
      wpOp P ops Q i (fun a' w'' => S w'' ∧ wpW P md ops Q S f (listed.setIfInBounds i true) a' w'') a w' := by
    intro f listed a w w' hy hg hS H
    unfold wpOp
    simp only [hi]
    rcases hy with ⟨hw, hst⟩ | ⟨hw, rfl⟩
    · simp only [hw, if_true]
      refine .inl (Oper.wp_mono (fun a' w'' hh => ?_) (wp_np (hst a.defers w' hS)))
      exact ⟨hh.2.1, by rw [hh.1]; exact wpW_up H (hg.trans hh.2.2)⟩
    · simp only [hw]
      exact ⟨hS, wpW_up H hg⟩
  intro f
  induction f with
  | zero =>
    intro listed a w _ hr hy H w' hg hS
    refine ⟨fun h => (by rw [h] at hr; cases hr), fun j hj => ?_⟩
    by_cases hji : j = i
    · subst hji; exact here 0 listed a w w' hy hg hS H
    · have h1 := ready_mono hj hji
      rw [(H w' hg hS).1] at h1
      cases h1
  | succ f ih =>
    intro listed a w hfree hr hy H w' hg hS
    refine ⟨fun h => (by rw [h] at hr; cases hr), fun j hj => ?_⟩
    by_cases hji : j = i
    · subst hji; exact here (f + 1) listed a w w' hy hg hS H
    · have h1 := (H w' hg hS).2 j (ready_mono hj hji)
      obtain ⟨hjun, oj, hoj, hall⟩ := mem_ready.1 hj
      have hnot : ∀ e ∈ oj.after, Region.binds md e = true → e.on ≠ i := fun e he hb heq => by
        have h1 := hall e he hb
        have h0 := (mem_ready.1 hr).1
        rw [heq] at h1
        rcases Nat.lt_or_ge i listed.size with h' | h'
        · simp [h'] at h0 h1; rw [h0] at h1; cases h1
        · simp [Array.getElem?_eq_none h'] at h1
      have h2 := wpOp_unput hoj (hfree j oj hoj hji hjun hnot) (fun cs b => hsel i oi cs b hi) (fun cs b => hsel j oj cs b hoj) hQ hy h1
      refine wpOp_mono (fun a' w'' hh => ⟨hh.2.1, ?_⟩) h2
      refine ih (listed.setIfInBounds j true) a' w'' (fun k ok hk hki hun hno => ?_) (ready_mono hr (Ne.symm hji)) hh.1 ?_
      · refine hfree k ok hk hki ?_ hno
        by_cases hkj : k = j
        · subst hkj; exact hjun
        · rwa [getD_set_ne true (Ne.symm hkj)] at hun
      · rw [Array.setIfInBounds_comm _ _ hji]
        exact hh.2.2

/-- What is asked of the text to take i first. -/
def firstB (md : Region.Mode) (ops : Array Oper) (listed : Array Bool) (i : Nat) : Bool :=
  (Region.ready md ops listed).contains i &&
  (List.range ops.size).all fun j => j == i || listed.getD j true || Region.waitsFor md ops j i || (match ops[i]?, ops[j]? with | some x, some y => x.apart ops y | _, _ => false)
def selB (ops : Array Oper) : Bool := (List.range ops.size).all fun i => match ops[i]? with
  | some o => (match o.op with | .select .. => false | _ => true)
  | none => true

theorem sel_of {ops : Array Oper} (h : selB ops = true) (j : Nat) (o : Oper) (cs : Array SelectCase) (b : Bool) (ho : ops[j]? = some o) : o.op ≠ .select cs b := by
  intro he
  unfold selB at h
  have := List.all_eq_true.1 h j (List.mem_range.2 (Array.getElem?_eq_some_iff.1 ho).1)
  rw [ho] at this
  simp [he] at this

/-- Does the post hang on the frame at a panic? -/
def PanicFree (Q : Exit → Act → World → Prop) : Prop := ∀ c (a : Act) (d : Option Tmp) (v : Value) w, Q (.panic c) (a.put d v) w → Q (.panic c) a w

/-- TAKE i FIRST. -/
theorem wpW_det {f : Nat} {listed l2 : Array Bool} {a : Act} {t' : Array Value} {w : World} (i : Nat) {oi : Oper} (hi : ops[i]? = some oi) (hs : selB ops = true) (hQ : PanicFree Q) (hb : firstB md ops listed i = true)
    (hw : Region.wanted oi (yielded ops a.tmps) = true)
    (h : ∀ ds w, S w → ∀ K : Act → World → Prop, (∀ w', S w' → Gr w w' → K { tmps := t', defers := ds } w') → oi.wp P { tmps := a.tmps, defers := ds } w K NP)
    (ha : (a.put oi.dst ((oi.dst.map fun d => t'.getD d undef).getD undef)).tmps = t') (hl : listed.setIfInBounds i true = l2)
    (H : wpW P md ops Q S f l2 { tmps := t', defers := a.defers } w) : wpW P md ops Q S (f + 1) listed a w := by
  unfold firstB at hb
  simp only [Bool.and_eq_true, List.all_eq_true, List.mem_range, Bool.or_eq_true, List.contains_iff_mem] at hb
  subst hl
  refine wpW_first hi (sel_of hs) (fun c a w => hQ c a _ _ w) f listed a w (fun j oj hj hji hun hno => ?_) hb.1 (v := (oi.dst.map fun d => t'.getD d undef).getD undef) (.inl ⟨hw, fun ds w hS => ?_⟩) ?_
  · rcases hb.2 j (Array.getElem?_eq_some_iff.1 hj).1 with ((h1 | h1) | h1) | h1
    · exact absurd (by simpa using h1) hji
    · rw [h1] at hun; cases hun
    · obtain ⟨o', ho', e, he, hbe, hon⟩ := Region.waitsFor_spec h1
      obtain rfl : o' = oj := Option.some.inj (ho'.symm.trans hj)
      exact absurd hon (hno e he hbe)
    · rw [hi, hj] at h1; exact h1
  · refine h ds w hS _ fun w' hS' hg => ⟨?_, hS', hg⟩
    rw [put_tmps a.tmps ds]
    congr 1
    refine ha.symm.trans ?_
    cases oi.dst <;> rfl
  · have e : a.put oi.dst ((oi.dst.map fun d => t'.getD d undef).getD undef) = { tmps := t', defers := a.defers } := by
      have e0 : ∀ x : Act, x.tmps = t' → x.defers = a.defers → x = { tmps := t', defers := a.defers } := by rintro ⟨_, _⟩ rfl rfl; rfl
      exact e0 _ ha (by cases oi.dst <;> rfl)
    rw [e]; exact H

/-- BRANCH OVER what may come up; each in whatever world has grown since. -/
theorem wpW_branch {f : Nat} {listed : Array Bool} {a : Act} {w : World} (rs : List Nat) (hr : Region.ready md ops listed = rs) (hne : rs ≠ [])
    (h : ∀ w', Gr w w' → S w' → ∀ i ∈ rs, wpOp P ops Q i (fun a' w'' => S w'' ∧ wpW P md ops Q S f (listed.setIfInBounds i true) a' w'') a w') : wpW P md ops Q S (f + 1) listed a w := by
  intro w' hg hS
  rw [hr]
  exact ⟨fun h0 => absurd h0 hne, h w' hg hS⟩
theorem each_nil {p : Nat → Prop} : ∀ i ∈ ([] : List Nat), p i := fun _ h => by cases h
theorem each_cons {p : Nat → Prop} {i : Nat} {l : List Nat} (h : p i) (hl : ∀ j ∈ l, p j) : ∀ j ∈ i :: l, p j := fun j hj => by
  rcases List.mem_cons.1 hj with rfl | hj
  · exact h
  · exact hl j hj
/-- One operation of the branching that is carried out. -/
theorem wpOp_go {f i : Nat} {listed l2 : Array Bool} {a : Act} {w : World} {o : Oper} (ho : ops[i]? = some o) (hl : listed.setIfInBounds i true = l2) (hw : Region.wanted o (yielded ops a.tmps) = true)
    (h : ∀ K : Act → World → Prop, (∀ a' w', S w' → wpW P md ops Q S f l2 a' w' → K a' w') → o.wp P a w K Q) :
    wpOp P ops Q i (fun a' w'' => S w'' ∧ wpW P md ops Q S f (listed.setIfInBounds i true) a' w'') a w := by
  unfold wpOp
  simp only [ho, hw, if_true]
  subst hl
  exact .inl (h _ fun a' w' hS hW => ⟨hS, hW⟩)
theorem wpW_end {listed : Array Bool} {a : Act} {w : World} (hr : Region.ready md ops listed = []) (h : ∀ w', Gr w w' → S w' → Q .normal a w') : wpW P md ops Q S 0 listed a w :=
  fun w' hg hS => ⟨hr, h w' hg hS⟩

/-- Only the straight way out. -/
def NQ (Q : Exit → Act → World → Prop) : Exit → Act → World → Prop := fun e a w => match e with
  | .normal => Q .normal a w
  | _ => False
theorem NQ_free (Q : Exit → Act → World → Prop) : PanicFree (NQ Q) := fun _ _ _ _ _ h => h

/-- ████ A REGION THAT DRAWS ITS ORDER ████ -/
theorem wp_region_w {id : Nat} {l : List Oper} {a : Act} {w : World} (S : World → Prop) (hm : P.follows .mixedOrders = true) (hS : S w.drew)
    (h : wpW P .any l.toArray (NQ Q) S l.length (Array.replicate l.length false) a w.drew) : (Code.region id l.toArray true).wp P Q a w :=
  Code.wp_mono (Q := NQ Q) (fun e a w h => by cases e <;> first | exact h | exact h.elim) (wp_region_any (Q := NQ Q) hm (by simpa using wpAny_of_wpW _ _ _ _ h hS))
end
end Go.Proofs.YtmdbpkomanhpoaaGreatDoor

namespace Go.Proofs.YtmdbpkomanhpoaaGreatDoor

/-- The region of a number. -/
def findR (n : Nat) : Code → Option Code
  | .region i ops d => if i = n then some (.region i ops d) else none
  | .seq a b => (findR n a).orElse fun _ => findR n b
  | .cond _ a b => (findR n a).orElse fun _ => findR n b
  | .block _ b => findR n b
  | .loop b => findR n b
  | .scope b => findR n b
  | .rangeFunc _ _ a b => (findR n a).orElse fun _ => findR n b
  | _ => none
def regOf (f : Func) (n : Nat) : Code := (f.body.bind (findR n)).getD .skip
end Go.Proofs.YtmdbpkomanhpoaaGreatDoor
