/- Plain law: the amplitudes of scans told in another order, twice, or cut. -/
import Derived.Test.YtidgeagpgllkeaaGreatFgC
namespace Go.Proofs.YtidgeagpgllkeaaGreat

theorem atV_le (l : List Sc) (r c m : Int) : atV l r c ≤ m ↔ -1 ≤ m ∧ ∀ s ∈ l, inB s r c = true → datV s r c ≤ m := by
  have key : ∀ (l : List Sc) (b : Int), l.foldl (fun b s => atS b s r c) b ≤ m ↔ b ≤ m ∧ ∀ s ∈ l, inB s r c = true → datV s r c ≤ m := by
    intro l
    induction l with
    | nil => intro b; simp
    | cons s l ih =>
      intro b
      rw [List.foldl_cons, ih]
      unfold atS
      by_cases hi : inB s r c = true
      · rw [if_pos hi]
        constructor
        · rintro ⟨h1, h2⟩
          refine ⟨by omega, fun t ht hti => ?_⟩
          rcases List.mem_cons.1 ht with rfl | ht
          · omega
          · exact h2 t ht hti
        · rintro ⟨h1, h2⟩
          have := h2 s (by simp) hi
          exact ⟨by omega, fun t ht hti => h2 t (List.mem_cons_of_mem _ ht) hti⟩
      · rw [if_neg hi]
        constructor
        · rintro ⟨h1, h2⟩
          refine ⟨h1, fun t ht hti => ?_⟩
          rcases List.mem_cons.1 ht with rfl | ht
          · exact absurd hti hi
          · exact h2 t ht hti
        · rintro ⟨h1, h2⟩
          exact ⟨h1, fun t ht hti => h2 t (List.mem_cons_of_mem _ ht) hti⟩
  exact key l (-1)
theorem atV_ext {l l' : List Sc} (h : ∀ r c m, (∀ s ∈ l, inB s r c = true → datV s r c ≤ m) ↔ (∀ s ∈ l', inB s r c = true → datV s r c ≤ m)) : atV l = atV l' := by
  funext r c
  have a := (atV_le l r c (atV l' r c)).2 (by
    have := (atV_le l' r c (atV l' r c)).1 (Int.le_refl _)
    exact ⟨this.1, (h r c _).2 this.2⟩)
  have b := (atV_le l' r c (atV l r c)).2 (by
    have := (atV_le l r c (atV l r c)).1 (Int.le_refl _)
    exact ⟨this.1, (h r c _).1 this.2⟩)
  omega
theorem atV_mem {l l' : List Sc} (h : ∀ s, s ∈ l ↔ s ∈ l') : atV l = atV l' := atV_ext fun _ _ _ => ⟨fun hh s hs => hh s ((h s).2 hs), fun hh s hs => hh s ((h s).1 hs)⟩
theorem scanE_good {s : Sc} (h : ScGood s) : scanE s = 0 := by
  unfold scanE
  have e1 : wi s.row (-100000) 100000 = true := by have := h.row; simp [wi]; omega
  have e2 : wi s.col (-100000) 100000 = true := by have := h.col; simp [wi]; omega
  have e3 : wi s.rows 1 24 = true := by have := h.rows; simp [wi]; omega
  have e4 : wi s.cols 1 24 = true := by have := h.cols; simp [wi]; omega
  rw [e1, e2, e3, e4, if_neg (by simp), if_neg (by simpa using h.len), if_pos]
  rw [List.all_eq_true]
  intro x hx
  have := h.data x hx
  simp [wi]; omega
theorem scansE_good {l : List Sc} (hl : l.length ≤ 6) (h : ∀ s ∈ l, ScGood s) : scansE l = (0, 0) := scansE_end hl fun _ hj => scanE_good (h _ (List.getElem_mem hj))
def topS (s : Sc) (n : Int) : Sc := { s with rows := n, data := s.data.take (n * s.cols).toNat }
def botS (s : Sc) (n : Int) : Sc := { s with row := s.row + n, rows := s.rows - n, data := s.data.drop (n * s.cols).toNat }
theorem cut_bd {s : Sc} (h : ScGood s) {n : Int} (hn : 1 ≤ n ∧ n < s.rows) : 1 ≤ n * s.cols ∧ n * s.cols ≤ 576 ∧ n * s.cols + s.cols ≤ s.data.length ∧ (s.rows - n) * s.cols = s.data.length - n * s.cols := by
  have h1 := h.rows
  have h2 := h.cols
  have h3 := h.len
  have m0 : 1 * 1 ≤ n * s.cols := Int.mul_le_mul hn.1 h2.1 (by omega) (by omega)
  have m1 : n * s.cols ≤ 24 * 24 := Int.mul_le_mul (by omega) h2.2 (by omega) (by omega)
  have m2 : (n + 1) * s.cols ≤ s.rows * s.cols := Int.mul_le_mul_of_nonneg_right (by omega) (by omega)
  rw [Int.add_mul] at m2
  refine ⟨by omega, by omega, by omega, ?_⟩
  rw [Int.sub_mul]; omega
theorem topS_good {s : Sc} (h : ScGood s) {n : Int} (hn : 1 ≤ n ∧ n < s.rows) : ScGood (topS s n) := by
  obtain ⟨b1, b2, b3, b4⟩ := cut_bd h hn
  have h1 := h.rows
  have h2 := h.short
  have h3 := h.cols
  refine ⟨h.row, h.col, ⟨hn.1, by show n ≤ 24; omega⟩, h.cols, ?_, ?_, fun x hx => h.data x (List.mem_of_mem_take hx)⟩
  · show ((s.data.take (n * s.cols).toNat).length : Int) = n * s.cols
    rw [List.length_take]; generalize n * s.cols = x at *; omega
  · show (s.data.take (n * s.cols).toNat).length ≤ 576
    rw [List.length_take]; generalize n * s.cols = x at *; omega
theorem botS_good {s : Sc} (h : ScGood s) {n : Int} (hn : 1 ≤ n ∧ n < s.rows) (hr : s.row + n ≤ 100000) : ScGood (botS s n) := by
  obtain ⟨b1, b2, b3, b4⟩ := cut_bd h hn
  have h0 := h.row
  have h1 := h.rows
  have h2 := h.short
  have h3 := h.cols
  refine ⟨⟨by show -100000 ≤ s.row + n; omega, hr⟩, h.col, ⟨by show 1 ≤ s.rows - n; omega, by show s.rows - n ≤ 24; omega⟩, h.cols, ?_, ?_, fun x hx => h.data x (List.mem_of_mem_drop hx)⟩
  · show ((s.data.drop (n * s.cols).toNat).length : Int) = (s.rows - n) * s.cols
    rw [List.length_drop, b4]; generalize n * s.cols = x at *; omega
  · show (s.data.drop (n * s.cols).toNat).length ≤ 576
    rw [List.length_drop]; generalize n * s.cols = x at *; omega
theorem cut_le {s : Sc} (h : ScGood s) {n : Int} (hn : 1 ≤ n ∧ n < s.rows) (r c m : Int) : (∀ t ∈ [topS s n, botS s n], inB t r c = true → datV t r c ≤ m) ↔ (inB s r c = true → datV s r c ≤ m) := by
  obtain ⟨b1, b2, b3, b4⟩ := cut_bd h hn
  have h2 := h.cols
  have et : inB (topS s n) r c = (wi (r - s.row) 0 (n - 1) && wi (c - s.col) 0 (s.cols - 1)) := rfl
  have eb : inB (botS s n) r c = (wi (r - (s.row + n)) 0 (s.rows - n - 1) && wi (c - s.col) 0 (s.cols - 1)) := rfl
  have es : inB s r c = (wi (r - s.row) 0 (s.rows - 1) && wi (c - s.col) 0 (s.cols - 1)) := rfl
  have dt : inB (topS s n) r c = true → datV (topS s n) r c = datV s r c := fun hi => by
    rw [et] at hi
    simp [wi] at hi
    have q : (r - s.row) * s.cols ≤ (n - 1) * s.cols := Int.mul_le_mul_of_nonneg_right (by omega) (by omega)
    have q0 : 0 ≤ (r - s.row) * s.cols := Int.mul_nonneg (by omega) (by omega)
    rw [show (n - 1) * s.cols = n * s.cols - s.cols by rw [Int.sub_mul, Int.one_mul]] at q
    show ((s.data.take (n * s.cols).toNat)[((r - s.row) * s.cols + (c - s.col)).toNat]?).getD 0 = (s.data[((r - s.row) * s.cols + (c - s.col)).toNat]?).getD 0
    rw [List.getElem?_take_of_lt (by generalize (r - s.row) * s.cols = y at *; generalize n * s.cols = x at *; omega)]
  have db : inB (botS s n) r c = true → datV (botS s n) r c = datV s r c := fun hi => by
    rw [eb] at hi
    simp [wi] at hi
    have q0 : 0 ≤ (r - (s.row + n)) * s.cols := Int.mul_nonneg (by omega) (by omega)
    have q1 : (r - (s.row + n)) * s.cols = (r - s.row) * s.cols - n * s.cols := by rw [← Int.sub_mul]; congr 1; omega
    show ((s.data.drop (n * s.cols).toNat)[((r - (s.row + n)) * s.cols + (c - s.col)).toNat]?).getD 0 = (s.data[((r - s.row) * s.cols + (c - s.col)).toNat]?).getD 0
    rw [List.getElem?_drop]
    congr 2
    omega
  constructor
  · intro hh hi
    by_cases hlt : r - s.row < n
    · have : inB (topS s n) r c = true := by
        rw [es] at hi; rw [et]
        simp [wi] at hi ⊢
        omega
      rw [← dt this]
      exact hh _ (by simp) this
    · have : inB (botS s n) r c = true := by
        rw [es] at hi; rw [eb]
        simp [wi] at hi ⊢
        omega
      rw [← db this]
      exact hh _ (by simp) this
  · intro hh t ht hi
    simp only [List.mem_cons, List.not_mem_nil, or_false] at ht
    rcases ht with rfl | rfl
    · rw [dt hi]
      refine hh ?_
      rw [et] at hi; rw [es]
      simp [wi] at hi ⊢
      omega
    · rw [db hi]
      refine hh ?_
      rw [eb] at hi; rw [es]
      simp [wi] at hi ⊢
      omega
/-- What becomes of a scan. -/
def cutP (k : Nat) (n : Int) (j : Nat) (s : Sc) : List Sc := if j ≠ k ∨ s.rows = 1 then [s] else [topS s n, botS s n]
/-- The scans, one of which is cut: of the first i. -/
def cutTo (l : List Sc) (k : Nat) (n : Int) (i : Nat) : List Sc := (List.range i).flatMap fun j => match l[j]? with
  | some s => cutP k n j s
  | none => []
theorem cutTo_succ {l : List Sc} (k : Nat) (n : Int) {i : Nat} {s : Sc} (h : l[i]? = some s) : cutTo l k n (i + 1) = cutTo l k n i ++ cutP k n i s := by
  unfold cutTo
  rw [List.range_succ, List.flatMap_append]
  simp [h]
theorem mem_cutTo {l : List Sc} {k : Nat} {n : Int} {t : Sc} : t ∈ cutTo l k n l.length ↔ ∃ j s, l[j]? = some s ∧ t ∈ cutP k n j s := by
  unfold cutTo
  rw [List.mem_flatMap]
  constructor
  · rintro ⟨j, hj, h⟩
    have hj' : j < l.length := List.mem_range.1 hj
    rw [List.getElem?_eq_getElem hj'] at h
    exact ⟨j, l[j], List.getElem?_eq_getElem hj', h⟩
  · rintro ⟨j, s, hs, ht⟩
    refine ⟨j, List.mem_range.2 (List.getElem?_eq_some_iff.1 hs).1, ?_⟩
    rw [hs]; exact ht
theorem cutTo_len (l : List Sc) (k : Nat) (n : Int) : ∀ i, (cutTo l k n i).length ≤ i + (if k < i then 1 else 0)
  | 0 => by simp [cutTo]
  | i + 1 => by
    have ih := cutTo_len l k n i
    have e : cutTo l k n (i + 1) = cutTo l k n i ++ (match l[i]? with
      | some s => cutP k n i s
      | none => []) := by unfold cutTo; rw [List.range_succ, List.flatMap_append]; simp
    rw [e, List.length_append]
    have hp : (match l[i]? with
      | some s => cutP k n i s
      | none => []).length ≤ if i = k then 2 else 1 := by
      cases l[i]? with
      | none => simp
      | some s =>
        show (cutP k n i s).length ≤ _
        unfold cutP
        by_cases e : i = k
        · rw [if_pos e]; split <;> simp
        · rw [if_neg e, if_pos (.inl e)]; simp
    by_cases e1 : i = k
    · rw [if_pos e1] at hp
      rw [if_neg (by omega)] at ih
      rw [if_pos (by omega)]
      omega
    · rw [if_neg e1] at hp
      by_cases e2 : k < i
      · rw [if_pos e2] at ih
        rw [if_pos (by omega)]
        omega
      · rw [if_neg e2] at ih
        rw [if_neg (by omega)]
        omega
theorem cut_good {l : List Sc} (hg : ∀ s ∈ l, ScGood s) {k : Nat} {n : Int} (hn : ∀ s, l[k]? = some s → s.rows ≠ 1 → 1 ≤ n ∧ n < s.rows ∧ s.row + n ≤ 100000) : ∀ t ∈ cutTo l k n l.length, ScGood t := by
  intro t ht0
  obtain ⟨j, s, hs, ht⟩ := mem_cutTo.1 ht0
  clear ht0
  have hgs := hg s (List.mem_of_getElem? hs)
  unfold cutP at ht
  by_cases hc : j ≠ k ∨ s.rows = 1
  · rw [if_pos hc] at ht
    obtain rfl : t = s := by simpa using ht
    exact hgs
  · rw [if_neg hc] at ht
    have hjk : j = k := Classical.byContradiction fun h => hc (.inl h)
    have h1 : s.rows ≠ 1 := fun h => hc (.inr h)
    subst hjk
    have hh := hn s hs h1
    simp only [List.mem_cons, List.not_mem_nil, or_false] at ht
    rcases ht with rfl | rfl
    · exact topS_good hgs ⟨hh.1, hh.2.1⟩
    · exact botS_good hgs ⟨hh.1, hh.2.1⟩ hh.2.2
theorem cut_atV {l : List Sc} (hg : ∀ s ∈ l, ScGood s) {k : Nat} {n : Int} (hn : ∀ s, l[k]? = some s → s.rows ≠ 1 → 1 ≤ n ∧ n < s.rows ∧ s.row + n ≤ 100000) : atV (cutTo l k n l.length) = atV l := by
  refine atV_ext fun r c m => ?_
  have key : ∀ j s, l[j]? = some s → ((∀ t ∈ cutP k n j s, inB t r c = true → datV t r c ≤ m) ↔ (inB s r c = true → datV s r c ≤ m)) := fun j s hs => by
    unfold cutP
    by_cases hc : j ≠ k ∨ s.rows = 1
    · rw [if_pos hc]; simp
    · rw [if_neg hc]
      have hjk : j = k := Classical.byContradiction fun h => hc (.inl h)
      have h1 : s.rows ≠ 1 := fun h => hc (.inr h)
      subst hjk
      have hh := hn s hs h1
      exact cut_le (hg s (List.mem_of_getElem? hs)) ⟨hh.1, hh.2.1⟩ r c m
  constructor
  · intro h s hs
    obtain ⟨j, hj, e⟩ := List.getElem_of_mem hs
    have hj' : l[j]? = some s := by rw [List.getElem?_eq_getElem hj, e]
    exact (key j s hj').1 fun t ht => h t (mem_cutTo.2 ⟨j, s, hj', ht⟩)
  · intro h t ht
    obtain ⟨j, s, hs, ht⟩ := mem_cutTo.1 ht
    exact (key j s hs).2 (h s (List.mem_of_getElem? hs)) t ht
/-- The scans from the last one to the first one, and one of them again. -/
def backTo (l : List Sc) (i : Nat) : List Sc := l.reverse.take i
theorem backTo_succ {l : List Sc} {i : Nat} (h : i < l.length) : backTo l (i + 1) = backTo l i ++ [l[l.length - 1 - i]] := by
  unfold backTo
  rw [List.take_succ_eq_append_getElem (by simpa using h), List.getElem_reverse]
theorem back_mem {l : List Sc} {k : Nat} {s : Sc} (h : l[k]? = some s) : ∀ t, t ∈ backTo l l.length ++ [s] ↔ t ∈ l := fun t => by
  unfold backTo
  rw [List.take_of_length_le (by simp), List.mem_append, List.mem_reverse, List.mem_singleton]
  constructor
  · rintro (h1 | rfl)
    · exact h1
    · exact List.mem_of_getElem? h
  · exact .inl
end Go.Proofs.YtidgeagpgllkeaaGreat
