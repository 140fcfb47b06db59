/- Plain law: the code's groups of marks are the reference's. -/
import Derived.Test.YtclpljbllnhhbaaGreatZeFcN
import Derived.Test.YtclpljbllnhhbaaGreatZeFeF
namespace Go.Proofs.YtclpljbllnhhbaaGreat

def subM (a b : Mk) : Prop := b.al ≤ a.al ∧ a.ah ≤ b.ah ∧ b.dl ≤ a.dl ∧ a.dh ≤ b.dh
theorem subM.refl (a : Mk) : subM a a := ⟨Int.le_refl _, Int.le_refl _, Int.le_refl _, Int.le_refl _⟩
theorem near_mono {x0 x1 y0 y1 X0 X1 Y0 Y1 m n d : Int} (h0 : X0 ≤ x0) (h1 : x1 ≤ X1) (h2 : Y0 ≤ y0) (h3 : y1 ≤ Y1) (hn : 0 ≤ n) (hd : 0 ≤ d) (h : nearV x0 x1 y0 y1 m n d = true) : nearV X0 X1 Y0 Y1 m n d = true := by
  unfold nearV at *
  rw [decide_eq_true_eq] at *
  have a : gapV X0 X1 Y0 Y1 * d ≤ gapV x0 x1 y0 y1 * d := Int.mul_le_mul_of_nonneg_right (by unfold gapV; omega) hd
  have b : n * min (x1 - x0) (y1 - y0) ≤ n * min (X1 - X0) (Y1 - Y0) := Int.mul_le_mul_of_nonneg_left (by omega) hn
  omega
theorem interact_mono {a b A B : Mk} {r : Ru} (hr : RuS r) (ha : subM a A) (hb : subM b B) (h : interactV a b r = true) : interactV A B r = true := by
  unfold interactV at *
  rw [Bool.and_eq_true] at *
  exact ⟨near_mono ha.1 ha.2.1 hb.1 hb.2.1 hr.num.1 (by have := hr.den.1; omega) h.1, near_mono ha.2.2.1 ha.2.2.2 hb.2.2.1 hb.2.2.2 hr.num.1 (by have := hr.den.1; omega) h.2⟩
/-- The hull of the marks of a group. -/
structure HullL (l : List Mk) (g : List Int) (H : Mk) : Prop where
  has : ∀ i ∈ g, ∀ m, l[i.toNat]? = some m → subM m H
  least : ∀ X, (∀ i ∈ g, ∀ m, l[i.toNat]? = some m → subM m X) → subM H X
theorem HullL.mono {l : List Mk} {g g' : List Int} {H H' : Mk} (h : HullL l g H) (h' : HullL l g' H') (hs : ∀ i ∈ g, i ∈ g') : subM H H' :=
  h.least _ fun i hi m hm => h'.has i (hs i hi) m hm
theorem HullL.same {l : List Mk} {g g' : List Int} {H : Mk} (h : HullL l g H) (hs : ∀ i, i ∈ g ↔ i ∈ g') : HullL l g' H :=
  ⟨fun i hi m hm => h.has i ((hs i).2 hi) m hm, fun X hX => h.least X fun i hi m hm => hX i ((hs i).1 hi) m hm⟩
theorem HullL.one {l : List Mk} {i : Nat} {m : Mk} (h : l[i]? = some m) : HullL l [(i : Int)] m := by
  refine ⟨fun j hj m' hm => ?_, fun X hX => hX i (by simp) m (by simpa using h)⟩
  obtain rfl : j = (i : Int) := by simpa using hj
  rw [Int.toNat_natCast, h] at hm
  obtain rfl : m = m' := by simpa using hm
  exact subM.refl _
theorem HullL.append {l : List Mk} {g g' : List Int} {H H' : Mk} (h : HullL l g H) (h' : HullL l g' H') : HullL l (g ++ g') (hullV H H') := by
  refine ⟨fun i hi m hm => ?_, fun X hX => ?_⟩
  · rcases List.mem_append.1 hi with hi | hi
    · have := h.has i hi m hm
      unfold subM hullV at *; dsimp only; omega
    · have := h'.has i hi m hm
      unfold subM hullV at *; dsimp only; omega
  · have a := h.least X fun i hi m hm => hX i (List.mem_append.2 (.inl hi)) m hm
    have b := h'.least X fun i hi m hm => hX i (List.mem_append.2 (.inr hi)) m hm
    unfold subM hullV at *; dsimp only; omega
/-- Groups of which no two interact, with all marks. -/
structure ClosedG (l : List Mk) (r : Ru) (Q : List (List Int)) : Prop where
  all : ∀ i : Nat, i < l.length → ∃ h ∈ Q, (i : Int) ∈ h
  hull : ∀ h ∈ Q, ∃ H, HullL l h H
  apart : ∀ h ∈ Q, ∀ h' ∈ Q, h ≠ h' → ∀ H H', HullL l h H → HullL l h' H' → interactV H H' r = false
def InG (Q : List (List Int)) (g : List Int) : Prop := ∃ h ∈ Q, ∀ i ∈ g, i ∈ h
theorem InG.merge {l : List Mk} {r : Ru} (hr : RuS r) {Q : List (List Int)} (hQ : ClosedG l r Q) {g g' : List Int} {H H' : Mk} (h : InG Q g) (h' : InG Q g') (hh : HullL l g H) (hh' : HullL l g' H') (hi : interactV H H' r = true) : InG Q (g ++ g') := by
  obtain ⟨a, ha, hga⟩ := h
  obtain ⟨b, hb, hgb⟩ := h'
  by_cases e : a = b
  · subst e
    exact ⟨a, ha, fun i hi => (List.mem_append.1 hi).elim (hga i) (hgb i)⟩
  · obtain ⟨A, hA⟩ := hQ.hull a ha
    obtain ⟨B, hB⟩ := hQ.hull b hb
    have h1 := interact_mono hr (hh.mono hA hga) (hh'.mono hB hgb) hi
    rw [hQ.apart a ha b hb e A B hA hB] at h1
    cases h1
def numsTo (n : Nat) : List Int := (List.range n).map fun (k : Nat) => (k : Int)
theorem mem_numsTo {n : Nat} {i : Int} : i ∈ numsTo n ↔ 0 ≤ i ∧ i < n := by
  unfold numsTo
  rw [List.mem_map]
  constructor
  · rintro ⟨k, hk, rfl⟩
    rw [List.mem_range] at hk; omega
  · intro h
    exact ⟨i.toNat, by rw [List.mem_range]; omega, by omega⟩
theorem numsTo_nodup (n : Nat) : (numsTo n).Nodup := by
  unfold numsTo List.Nodup
  rw [List.pairwise_map]
  exact List.nodup_range.imp (fun h e => h (by omega))
/-- Groups of the numbers to n, ascending, in the order of their first ones. -/
structure CanonG (n : Nat) (D : List (List Int)) : Prop where
  asc : ∀ g ∈ D, g.Pairwise (· < ·)
  pos : ∀ g ∈ D, g ≠ []
  ord : (D.map fun g => g.headD 0).Pairwise (· < ·)
  perm : D.flatten.Perm (numsTo n)
theorem eq_of_mem {α : Type} {R : α → α → Prop} (asy : ∀ a b, R a b → ¬ R b a) : ∀ {l1 l2 : List α}, l1.Pairwise R → l2.Pairwise R → (∀ x, x ∈ l1 ↔ x ∈ l2) → l1 = l2
  | [], [], _, _, _ => rfl
  | [], b :: l2, _, _, h => by have := (h b).2 (by simp); simp at this
  | a :: l1, [], _, _, h => by have := (h a).1 (by simp); simp at this
  | a :: l1, b :: l2, h1, h2, h => by
    rw [List.pairwise_cons] at h1 h2
    have e : a = b := by
      rcases List.mem_cons.1 ((h a).1 (by simp)) with e | ha
      · exact e
      rcases List.mem_cons.1 ((h b).2 (by simp)) with e | hb
      · exact e.symm
      · exact absurd (h2.1 a ha) (asy _ _ (h1.1 b hb))
    subst e
    rw [eq_of_mem asy h1.2 h2.2 fun x => ⟨fun hx => ?_, fun hx => ?_⟩]
    · rcases List.mem_cons.1 ((h x).1 (List.mem_cons_of_mem _ hx)) with e | hx'
      · subst e; exact absurd (h1.1 x hx) (fun h => asy _ _ h h)
      · exact hx'
    · rcases List.mem_cons.1 ((h x).2 (List.mem_cons_of_mem _ hx)) with e | hx'
      · subst e; exact absurd (h2.1 x hx) (fun h => asy _ _ h h)
      · exact hx'
theorem CanonG.nodup {n : Nat} {D : List (List Int)} (h : CanonG n D) : D.flatten.Nodup := h.perm.nodup_iff.2 (numsTo_nodup n)
theorem CanonG.one {n : Nat} {D : List (List Int)} (h : CanonG n D) {a b : List Int} (ha : a ∈ D) (hb : b ∈ D) {i : Int} (hia : i ∈ a) (hib : i ∈ b) : a = b := by
  have hd := (List.pairwise_flatten.1 h.nodup).2
  have key : ∀ {D : List (List Int)}, D.Pairwise (fun l₁ l₂ => ∀ x ∈ l₁, ∀ y ∈ l₂, x ≠ y) → a ∈ D → b ∈ D → a = b := by
    intro D hD ha hb
    induction D with
    | nil => cases ha
    | cons c D ih =>
      rw [List.pairwise_cons] at hD
      rcases List.mem_cons.1 ha with e1 | ha1 <;> rcases List.mem_cons.1 hb with e2 | hb1
      · rw [e1, e2]
      · subst e1; exact absurd rfl (hD.1 b hb1 i hia i hib)
      · subst e2; exact absurd rfl (hD.1 a ha1 i hib i hia)
      · exact ih hD.2 ha1 hb1
  exact key hd ha hb
theorem CanonG.sub {n : Nat} {D E : List (List Int)} (h : CanonG n D) (h' : CanonG n E) (h1 : ∀ g ∈ D, InG E g) (h2 : ∀ g ∈ E, InG D g) : ∀ g ∈ D, g ∈ E := by
  intro g hg
  obtain ⟨e, he, hge⟩ := h1 g hg
  obtain ⟨d, hd, hed⟩ := h2 e he
  have hne := h.pos g hg
  obtain ⟨i, hi⟩ : ∃ i, i ∈ g := by
    cases g with
    | nil => exact absurd rfl hne
    | cons i g => exact ⟨i, by simp⟩
  obtain rfl : d = g := h.one hd hg (hed i (hge i hi)) hi
  obtain rfl : d = e := eq_of_mem (fun a b (h : a < b) (h' : b < a) => by omega) (h.asc d hg) (h'.asc e he) (fun x => ⟨hge x, hed x⟩)
  exact he
theorem CanonG.eq {n : Nat} {D E : List (List Int)} (h : CanonG n D) (h' : CanonG n E) (h1 : ∀ g ∈ D, InG E g) (h2 : ∀ g ∈ E, InG D g) : D = E :=
  eq_of_mem (R := fun x y => x.headD 0 < y.headD 0) (fun a b h h' => by omega) (List.pairwise_map.1 h.ord) (List.pairwise_map.1 h'.ord) (fun x => ⟨h.sub h' h1 h2 x, h'.sub h h2 h1 x⟩)
/-- What the groups of marks are. -/
structure ResG (l : List Mk) (r : Ru) (D : List (List Int)) : Prop where
  canon : CanonG l.length D
  closed : ClosedG l r D
  fit : ∀ Q, ClosedG l r Q → ∀ g ∈ D, InG Q g
theorem ResG.eq {l : List Mk} {r : Ru} {D E : List (List Int)} (h : ResG l r D) (h' : ResG l r E) : D = E :=
  h.canon.eq h'.canon (h.fit E h'.closed) (h'.fit D h.closed)

/-! ### the code's groups -/
structure GI (l : List Mk) (r : Ru) (ns : List Int) (gs : List PG) : Prop where
  hull : ∀ g ∈ gs, HullL l g.1 g.2
  pos : ∀ g ∈ gs, g.1 ≠ []
  apart : gs.Pairwise (fun x y => interactV x.2 y.2 r = false)
  perm : (gs.flatMap (·.1)).Perm ns
  fit : ∀ Q, ClosedG l r Q → ∀ g ∈ gs, InG Q g.1
theorem flat_erase {α β : Type} (f : α → List β) : ∀ (l : List α) (k : Nat) (h : k < l.length), (l.flatMap f).Perm (f l[k] ++ (l.eraseIdx k).flatMap f)
  | a :: l, 0, _ => by simp
  | a :: l, k + 1, h => by
    have ih := flat_erase f l k (by simpa using h)
    simp only [List.flatMap_cons, List.getElem_cons_succ, List.eraseIdx_cons_succ]
    refine (List.Perm.append_left _ ih).trans ?_
    rw [← List.append_assoc, ← List.append_assoc]
    exact List.Perm.append_right _ List.perm_append_comm
theorem absorb_inv {l : List Mk} {r : Ru} (hr : RuS r) {ns : List Int} : ∀ (f : Nat) (o : PG) (gs : List PG), gs.length ≤ f → HullL l o.1 o.2 → o.1 ≠ [] → (∀ Q, ClosedG l r Q → InG Q o.1) → GI l r ns gs →
    ∃ os, HullL l (absorbV r f o gs).1.1 (absorbV r f o gs).1.2 ∧ (absorbV r f o gs).1.1 ≠ [] ∧ (∀ Q, ClosedG l r Q → InG Q (absorbV r f o gs).1.1) ∧ GI l r os (absorbV r f o gs).2 ∧ (os ++ (absorbV r f o gs).1.1).Perm (ns ++ o.1) ∧ ∀ g ∈ (absorbV r f o gs).2, interactV g.2 (absorbV r f o gs).1.2 r = false
  | 0, o, gs, hf, h1, h2, h3, h4 => by
    obtain rfl : gs = [] := List.eq_nil_of_length_eq_zero (by omega)
    exact ⟨ns, h1, h2, h3, h4, .refl _, fun g hg => by simp [absorbV] at hg⟩
  | f + 1, o, gs, hf, h1, h2, h3, h4 => by
    cases hk : gs.findIdx? (meetP r o) with
    | none =>
      have e : absorbV r (f + 1) o gs = (o, gs) := by unfold absorbV; rw [hk]
      rw [e]
      refine ⟨ns, h1, h2, h3, h4, .refl _, fun g hg => ?_⟩
      have := List.findIdx?_eq_none_iff.1 hk g hg
      simpa [meetP] using this
    | some k =>
      obtain ⟨hlt, hm, _⟩ := List.findIdx?_eq_some_iff_getElem.1 hk
      have e : absorbV r (f + 1) o gs = absorbV r f (o.1 ++ gs[k].1, hullV o.2 gs[k].2) (gs.eraseIdx k) := by
        show (match gs.findIdx? (meetP r o) with
          | none => (o, gs)
          | some k => absorbV r f (o.1 ++ (gs[k]?.getD o).1, hullV o.2 (gs[k]?.getD o).2) (gs.eraseIdx k)) = _
        rw [hk]
        show absorbV r f (o.1 ++ (gs[k]?.getD o).1, hullV o.2 (gs[k]?.getD o).2) (gs.eraseIdx k) = _
        rw [List.getElem?_eq_getElem hlt]; rfl
      rw [e]
      have hmem := List.getElem_mem hlt
      have hp := flat_erase (·.1) gs k hlt
      obtain ⟨os, a1, a2, a3, a4, a5, a6⟩ := absorb_inv hr f (o.1 ++ gs[k].1, hullV o.2 gs[k].2) (gs.eraseIdx k) (ns := (gs.eraseIdx k).flatMap (·.1)) (by rw [List.length_eraseIdx_of_lt hlt]; omega)
        (h1.append (h4.hull _ hmem)) (by simp [h2]) (fun Q hQ => (h3 Q hQ).merge hr hQ (h4.fit Q hQ _ hmem) h1 (h4.hull _ hmem) (by rw [interactV_comm]; exact hm))
        ⟨fun g hg => h4.hull g (List.mem_of_mem_eraseIdx hg), fun g hg => h4.pos g (List.mem_of_mem_eraseIdx hg), h4.apart.sublist (List.eraseIdx_sublist ..), .refl _, fun Q hQ g hg => h4.fit Q hQ g (List.mem_of_mem_eraseIdx hg)⟩
      refine ⟨os, a1, a2, a3, a4, a5.trans ?_, a6⟩
      have hq := hp.symm.trans h4.perm
      refine List.Perm.trans ?_ (List.Perm.append_right o.1 hq)
      show ((gs.eraseIdx k).flatMap (·.1) ++ (o.1 ++ gs[k].1)).Perm ((gs[k].1 ++ (gs.eraseIdx k).flatMap (·.1)) ++ o.1)
      rw [List.append_assoc]
      refine List.perm_append_comm.trans ?_
      rw [List.append_assoc]
      refine List.perm_append_comm.trans ?_
      rw [List.append_assoc]
theorem step_inv {l : List Mk} {r : Ru} (hr : RuS r) {i : Nat} {m : Mk} {gs : List PG} (hm : l[i]? = some m) (h : GI l r (numsTo i) gs) : GI l r (numsTo (i + 1)) (groupStep r gs i m) := by
  have hi : i < l.length := by
    rcases Nat.lt_or_ge i l.length with h | h
    · exact h
    · rw [List.getElem?_eq_none h] at hm; cases hm
  obtain ⟨os, a1, a2, a3, a4, a5, a6⟩ := absorb_inv hr gs.length ([(i : Int)], m) gs (Nat.le_refl _) (HullL.one hm) (by simp)
    (fun Q hQ => by obtain ⟨q, hq, hqi⟩ := hQ.all i hi; exact ⟨q, hq, fun j hj => by obtain rfl : j = (i : Int) := by simpa using hj
                                                                                     exact hqi⟩) h
  unfold groupStep
  generalize absorbV r gs.length ([(i : Int)], m) gs = T at *
  obtain ⟨o, G⟩ := T
  refine ⟨fun g hg => ?_, fun g hg => ?_, ?_, ?_, fun Q hQ g hg => ?_⟩
  · rcases List.mem_append.1 hg with hg | hg
    · exact a4.hull g hg
    · obtain rfl : g = o := by simpa using hg
      exact a1
  · rcases List.mem_append.1 hg with hg | hg
    · exact a4.pos g hg
    · obtain rfl : g = o := by simpa using hg
      exact a2
  · rw [List.pairwise_append]
    refine ⟨a4.apart, by simp, fun a ha b hb => ?_⟩
    obtain rfl : b = o := by simpa using hb
    exact a6 a ha
  · rw [List.flatMap_append]
    have e : numsTo (i + 1) = numsTo i ++ [(i : Int)] := by simp [numsTo, List.range_succ]
    rw [e]
    refine List.Perm.trans ?_ a5
    have : ([o].flatMap fun g : PG => g.1) = o.1 := by simp
    rw [this]
    exact List.Perm.append_right _ a4.perm
  · rcases List.mem_append.1 hg with hg | hg
    · exact a4.fit Q hQ g hg
    · obtain rfl : g = o := by simpa using hg
      exact a3 Q hQ
theorem groups_inv {l : List Mk} {r : Ru} (hr : RuS r) : ∀ (k : Nat) (i : Nat) (gs : List PG), l.length - i = k → i ≤ l.length → GI l r (numsTo i) gs → GI l r (numsTo l.length) (groupsV r i (l.drop i) gs)
  | 0, i, gs, hk, hi, h => by
    obtain rfl : i = l.length := by omega
    rw [List.drop_length]; exact h
  | k + 1, i, gs, hk, hi, h => by
    have hlt : i < l.length := by omega
    rw [List.drop_eq_getElem_cons hlt]
    exact groups_inv hr k (i + 1) _ (by omega) (by omega) (step_inv hr (List.getElem?_eq_getElem hlt) h)
theorem groups_gi {l : List Mk} {r : Ru} (hr : RuS r) : GI l r (numsTo l.length) (groupsV r 0 l []) := by
  have := groups_inv hr l.length 0 [] (by omega) (Nat.zero_le _) (l := l) ⟨fun g hg => (by cases hg), fun g hg => (by cases hg), List.Pairwise.nil, by simp [numsTo], fun Q _ g hg => (by cases hg)⟩
  rwa [List.drop_zero] at this
theorem sortV_mem (zs : List Int) (i : Int) : i ∈ sortV zs ↔ i ∈ zs := by unfold sortV; exact (List.mergeSort_perm _ _).mem_iff
theorem sortV_asc {zs : List Int} (h : zs.Nodup) : (sortV zs).Pairwise (· < ·) := by
  have h1 : (sortV zs).Pairwise (fun x y => decide (x ≤ y) = true) := List.pairwise_mergeSort (fun a b c h1 h2 => by simp at *; omega) (fun a b => by simp; omega) _
  have h2 : (sortV zs).Nodup := (List.mergeSort_perm _ _).nodup_iff.2 h
  unfold List.Nodup at h2
  exact (h1.and h2).imp (fun h => by have := h.1; have := h.2; simp at *; omega)
theorem flat_perm : ∀ {a b : List (List Int)}, a.Perm b → a.flatten.Perm b.flatten := fun h => h.flatten
/-- The code's groups, sorted, are the groups of the marks. -/
theorem GI.res {l : List Mk} {r : Ru} {gs : List PG} (h : GI l r (numsTo l.length) gs) {D : List (List Int)} (hp : D.Perm (gs.map fun g => sortV g.1)) (ho : D.Pairwise fun x y => x.headD 0 ≤ y.headD 0) : ResG l r D := by
  have hnd : (gs.flatMap (·.1)).Nodup := h.perm.nodup_iff.2 (numsTo_nodup _)
  rw [List.flatMap_def] at hnd
  have hpw := List.pairwise_flatten.1 hnd
  have hmem : ∀ d ∈ D, ∃ g ∈ gs, d = sortV g.1 := fun d hd => by
    obtain ⟨g, hg, e⟩ := List.mem_map.1 (hp.mem_iff.1 hd)
    exact ⟨g, hg, e.symm⟩
  have hmem' : ∀ g ∈ gs, sortV g.1 ∈ D := fun g hg => hp.mem_iff.2 (List.mem_map_of_mem hg)
  have asc : ∀ d ∈ D, d.Pairwise (· < ·) := fun d hd => by
    obtain ⟨g, hg, rfl⟩ := hmem d hd
    exact sortV_asc (hpw.1 _ (List.mem_map_of_mem hg))
  have pos : ∀ d ∈ D, d ≠ [] := fun d hd => by
    obtain ⟨g, hg, rfl⟩ := hmem d hd
    intro e
    have := h.pos g hg
    cases hg1 : g.1 with
    | nil => exact this hg1
    | cons i t => have := (sortV_mem g.1 i).2 (by rw [hg1]; simp); rw [e] at this; cases this
  have perm : D.flatten.Perm (numsTo l.length) := by
    refine (flat_perm hp).trans (List.Perm.trans ?_ h.perm)
    rw [List.flatMap_def]
    have : ∀ gs : List PG, (gs.map fun g => sortV g.1).flatten.Perm (gs.map (·.1)).flatten := by
      intro gs
      induction gs with
      | nil => simp
      | cons g gs ih => simp only [List.map_cons, List.flatten_cons]; exact (List.mergeSort_perm _ _).append ih
    exact this gs
  have dis := (List.pairwise_flatten.1 (perm.nodup_iff.2 (numsTo_nodup _))).2
  have hd : ∀ d ∈ D, d.headD 0 ∈ d := fun d hd => by
    have := pos d hd
    cases d with
    | nil => exact absurd rfl this
    | cons a t => simp
  have ord : (D.map fun g => g.headD 0).Pairwise (· < ·) := by
    rw [List.pairwise_map]
    have hall : D.Pairwise (fun x y => x ∈ D ∧ y ∈ D) := List.pairwise_iff_forall_sublist.2 (fun hs => ⟨hs.subset (by simp), hs.subset (by simp)⟩)
    refine ((ho.and dis).and hall).imp (fun {x y} h => ?_)
    have := h.1.2 _ (hd x h.2.1) _ (hd y h.2.2)
    have := h.1.1
    omega
  refine ⟨⟨asc, pos, ord, perm⟩, ⟨fun i hi => ?_, fun d hd => ?_, ?_⟩, fun Q hQ d hd => ?_⟩
  · obtain ⟨d, hd, hid⟩ := List.mem_flatten.1 (perm.mem_iff.2 (mem_numsTo.2 ⟨by omega, by omega⟩ : (i : Int) ∈ numsTo l.length))
    exact ⟨d, hd, hid⟩
  · obtain ⟨g, hg, rfl⟩ := hmem d hd
    exact ⟨g.2, (h.hull g hg).same fun i => (sortV_mem _ _).symm⟩
  · intro a ha b hb hne H H' hH hH'
    obtain ⟨g, hg, rfl⟩ := hmem a ha
    obtain ⟨g', hg', rfl⟩ := hmem b hb
    have key : ∀ {gs : List PG}, gs.Pairwise (fun x y => interactV x.2 y.2 r = false) → g ∈ gs → g' ∈ gs → g ≠ g' → interactV g.2 g'.2 r = false := by
      intro gs hp h1 h2 hn
      induction gs with
      | nil => cases h1
      | cons c gs ih =>
        rw [List.pairwise_cons] at hp
        rcases List.mem_cons.1 h1 with e1 | h1' <;> rcases List.mem_cons.1 h2 with e2 | h2'
        · exact absurd (e1.trans e2.symm) hn
        · subst e1; exact hp.1 _ h2'
        · subst e2; rw [interactV_comm]; exact hp.1 _ h1'
        · exact ih hp.2 h1' h2'
    have hf := key h.apart hg hg' (fun e => hne (by rw [e]))
    have same : ∀ {g : List Int} {A B : Mk}, HullL l g A → HullL l g B → A.al = B.al ∧ A.ah = B.ah ∧ A.dl = B.dl ∧ A.dh = B.dh := fun ha hb => by
      have h1 := ha.mono hb (fun _ h => h)
      have h2 := hb.mono ha (fun _ h => h)
      unfold subM at h1 h2; omega
    obtain ⟨p1, p2, p3, p4⟩ := same hH ((h.hull g hg).same fun i => (sortV_mem _ _).symm)
    obtain ⟨q1, q2, q3, q4⟩ := same hH' ((h.hull g' hg').same fun i => (sortV_mem _ _).symm)
    rw [← hf]
    unfold interactV
    rw [p1, p2, p3, p4, q1, q2, q3, q4]
  · obtain ⟨g, hg, rfl⟩ := hmem d hd
    obtain ⟨q, hq, hi⟩ := h.fit Q hQ g hg
    exact ⟨q, hq, fun i hi' => hi i ((sortV_mem _ _).1 hi')⟩

/-! ### the reference's groups -/
/-- What the reference keeps. -/
structure RI (l : List Mk) (r : Ru) (D : List (List Int)) : Prop where
  canon : CanonG l.length D
  fit : ∀ Q, ClosedG l r Q → ∀ g ∈ D, InG Q g
theorem RI.start (l : List Mk) (r : Ru) : RI l r ((numsTo l.length).map fun i => [i]) := by
  refine ⟨⟨fun g hg => ?_, fun g hg => ?_, ?_, ?_⟩, fun Q hQ g hg => ?_⟩
  · obtain ⟨i, _, rfl⟩ := List.mem_map.1 hg; simp
  · obtain ⟨i, _, rfl⟩ := List.mem_map.1 hg; simp
  · rw [List.map_map]
    have : ((fun g : List Int => g.headD 0) ∘ fun i => [i]) = id := by funext i; rfl
    rw [this, List.map_id]
    unfold numsTo
    rw [List.pairwise_map]
    exact List.pairwise_lt_range.imp (fun h => by omega)
  · have : ∀ L : List Int, (L.map fun i => [i]).flatten = L := by
      intro L; induction L with
      | nil => rfl
      | cons a L ih => simp only [List.map_cons, List.flatten_cons]; rw [ih]; rfl
    rw [this]
  · obtain ⟨i, hi, rfl⟩ := List.mem_map.1 hg
    have := mem_numsTo.1 hi
    obtain ⟨q, hq, h⟩ := hQ.all i.toNat (by omega)
    refine ⟨q, hq, fun j hj => ?_⟩
    obtain rfl : j = i := by simpa using hj
    rwa [show ((j.toNat : Nat) : Int) = j by omega] at h
def hullR (l : List Mk) (g : List Int) : Mk := match g with
  | [] => ⟨⟨#[]⟩, 0, 0, 0, 0, 0⟩
  | i :: t => t.foldl (fun o j => hullV o (l[j.toNat]?.getD o)) (l[i.toNat]?.getD ⟨⟨#[]⟩, 0, 0, 0, 0, 0⟩)
theorem hullR_ok {l : List Mk} {g : List Int} (hp : g ≠ []) (hb : ∀ i ∈ g, 0 ≤ i ∧ i < l.length) : HullL l g (hullR l g) := by
  cases g with
  | nil => exact absurd rfl hp
  | cons i t =>
    have key : ∀ (t a : List Int) (o : Mk), HullL l a o → (∀ i ∈ t, 0 ≤ i ∧ i < l.length) → HullL l (a ++ t) (t.foldl (fun o j => hullV o (l[j.toNat]?.getD o)) o) := by
      intro t
      induction t with
      | nil => intro a o h _; simpa using h
      | cons j t ih =>
        intro a o h hb
        have hj := hb j (by simp)
        have hjl : j.toNat < l.length := by omega
        have e : l[j.toNat]? = some l[j.toNat] := List.getElem?_eq_getElem hjl
        have h1 := HullL.one e
        rw [show ((j.toNat : Nat) : Int) = j by omega] at h1
        have := ih (a ++ [j]) _ (h.append h1) (fun i hi => hb i (List.mem_cons_of_mem _ hi))
        rw [List.append_assoc] at this
        simp only [List.foldl_cons]
        rw [e]
        exact this
    have hi := hb i (by simp)
    have hil : i.toNat < l.length := by omega
    have e : l[i.toNat]? = some l[i.toNat] := List.getElem?_eq_getElem hil
    have h1 := HullL.one e
    rw [show ((i.toNat : Nat) : Int) = i by omega] at h1
    have := key t [i] _ h1 (fun j hj => hb j (List.mem_cons_of_mem _ hj))
    unfold hullR
    dsimp only
    rw [e]; exact this
theorem RI.bd {l : List Mk} {r : Ru} {D : List (List Int)} (h : RI l r D) {g : List Int} (hg : g ∈ D) : ∀ i ∈ g, 0 ≤ i ∧ i < l.length := fun _ hi =>
  mem_numsTo.1 (h.canon.perm.mem_iff.1 (List.mem_flatten.2 ⟨g, hg, hi⟩))
theorem RI.done {l : List Mk} {r : Ru} {D : List (List Int)} (h : RI l r D) (hn : ∀ i k, i < k → k < D.length → interactV (hullR l (D[i]?.getD [])) (hullR l (D[k]?.getD [])) r = false) : ResG l r D := by
  refine ⟨h.canon, ⟨fun i hi => ?_, fun g hg => ⟨_, hullR_ok (h.canon.pos g hg) (h.bd hg)⟩, ?_⟩, h.fit⟩
  · obtain ⟨d, hd, hid⟩ := List.mem_flatten.1 (h.canon.perm.mem_iff.2 (mem_numsTo.2 ⟨by omega, by omega⟩ : (i : Int) ∈ numsTo l.length))
    exact ⟨d, hd, hid⟩
  · intro a ha b hb hne H H' hH hH'
    have same : ∀ {g : List Int} {A B : Mk}, HullL l g A → HullL l g B → A.al = B.al ∧ A.ah = B.ah ∧ A.dl = B.dl ∧ A.dh = B.dh := fun ha hb => by
      have h1 := ha.mono hb (fun _ h => h)
      have h2 := hb.mono ha (fun _ h => h)
      unfold subM at h1 h2; omega
    obtain ⟨p1, p2, p3, p4⟩ := same hH (hullR_ok (h.canon.pos a ha) (h.bd ha))
    obtain ⟨q1, q2, q3, q4⟩ := same hH' (hullR_ok (h.canon.pos b hb) (h.bd hb))
    have hf : interactV (hullR l a) (hullR l b) r = false := by
      obtain ⟨i, hi, rfl⟩ := List.getElem_of_mem ha
      obtain ⟨k, hk, rfl⟩ := List.getElem_of_mem hb
      rcases (by omega : i < k ∨ i = k ∨ k < i) with hlt | e | hlt
      · have := hn i k hlt hk
        rwa [List.getElem?_eq_getElem hi, List.getElem?_eq_getElem hk] at this
      · subst e; exact absurd rfl hne
      · have := hn k i hlt hi
        rw [List.getElem?_eq_getElem hi, List.getElem?_eq_getElem hk] at this
        rw [interactV_comm]; exact this
    rw [← hf]
    unfold interactV
    rw [p1, p2, p3, p4, q1, q2, q3, q4]
end Go.Proofs.YtclpljbllnhhbaaGreat
