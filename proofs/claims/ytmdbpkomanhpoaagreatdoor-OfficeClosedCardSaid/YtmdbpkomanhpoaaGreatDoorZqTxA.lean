/- Plain law of texts: a text cut at a byte; numbers as texts, and read from texts. -/
import Derived.Lib.ItoaNum
import Derived.Lib.AtoiAll
import Derived.Lib.SplitLaws
import Derived.Lib.Strings
import Derived.Lib.Join
namespace Go.Proofs.YtmdbpkomanhpoaaGreatDoor
open Go.Lib

/-! ### cut at a byte -/
/-- A text cut at a byte. -/
def cutL (c : UInt8) : List UInt8 → List (List UInt8)
  | [] => [[]]
  | b :: l => if b = c then [] :: cutL c l else (b :: (cutL c l).headD []) :: (cutL c l).tail

theorem cutL_ne (c : UInt8) (l : List UInt8) : cutL c l ≠ [] := by
  cases l with
  | nil => simp [cutL]
  | cons b l => unfold cutL; split <;> simp
theorem cutL_hit (c : UInt8) : ∀ (a r : List UInt8), c ∉ a → cutL c (a ++ c :: r) = a :: cutL c r
  | [], r, _ => by simp [cutL]
  | b :: a, r, h => by
    have hb : b ≠ c := fun e => h (by simp [e])
    rw [List.cons_append, cutL, if_neg hb, cutL_hit c a r (fun e => h (by simp [e]))]
    rfl
theorem cutL_miss (c : UInt8) : ∀ (a : List UInt8), c ∉ a → cutL c a = [a]
  | [], _ => rfl
  | b :: a, h => by
    have hb : b ≠ c := fun e => h (by simp [e])
    rw [cutL, if_neg hb, cutL_miss c a (fun e => h (by simp [e]))]
    rfl
theorem cutL_split (c : UInt8) : ∀ (l : List UInt8), c ∉ l ∨ ∃ a r, l = a ++ c :: r ∧ c ∉ a
  | [] => .inl (by simp)
  | b :: l => by
    by_cases hb : b = c
    · exact .inr ⟨[], l, by simp [hb], by simp⟩
    · rcases cutL_split c l with h | ⟨a, r, h, ha⟩
      · exact .inl (by simp [h, Ne.symm hb])
      · exact .inr ⟨b :: a, r, by simp [h], by simp [ha, Ne.symm hb]⟩
theorem cutL_count (c : UInt8) : ∀ (l : List UInt8), (cutL c l).length = l.count c + 1
  | [] => rfl
  | b :: l => by
    unfold cutL
    by_cases hb : b = c
    · rw [if_pos hb, List.length_cons, cutL_count c l, hb, List.count_cons_self]
    · rw [if_neg hb, List.count_cons_of_ne (by simpa using hb), ← cutL_count c l]
      have := cutL_ne c l
      cases hc : cutL c l with
      | nil => exact absurd hc this
      | cons x xs => simp
theorem index_miss (c : UInt8) : ∀ (l : List UInt8), c ∉ l → index l [c] = -1
  | [], _ => by simp [index]
  | b :: l, h => by
    have hb : b ≠ c := fun e => h (by simp [e])
    have hp : ([c] : List UInt8).isPrefixOf (b :: l) = false := by simp [List.isPrefixOf, Ne.symm hb]
    rw [index, hp, index_miss c l (fun e => h (by simp [e]))]
    simp
theorem index_hit (c : UInt8) : ∀ (a r : List UInt8), c ∉ a → index (a ++ c :: r) [c] = a.length
  | [], r, _ => by simp [index, List.isPrefixOf]
  | b :: a, r, h => by
    have hb : b ≠ c := fun e => h (by simp [e])
    have hp : ([c] : List UInt8).isPrefixOf (b :: (a ++ c :: r)) = false := by simp [List.isPrefixOf, Ne.symm hb]
    rw [List.cons_append, index, hp, index_hit c a r (fun e => h (by simp [e]))]
    have : ((a.length : Int) == -1) = false := beq_eq_false_iff_ne.2 (by omega)
    simp [this]
theorem contains_one (c : UInt8) (l : List UInt8) : contains l [c] = decide (c ∈ l) := by
  unfold contains
  rcases cutL_split c l with h | ⟨a, r, h, ha⟩
  · rw [index_miss c l h]; simp [h]
  · subst h; rw [index_hit c a r ha]; simp
theorem splitK_cut (c : UInt8) : ∀ (k : Nat) (l : List UInt8), l.count c = k → splitK [c] 0 k l = cutL c l
  | 0, l, h => by rw [cutL_miss c l (by rwa [List.count_eq_zero] at h)]; rfl
  | k + 1, l, h => by
    rcases cutL_split c l with hm | ⟨a, r, hl, ha⟩
    · rw [List.count_eq_zero_of_not_mem hm] at h; omega
    · subst hl
      rw [splitK, index_hit c a r ha, cutL_hit c a r ha]
      rw [List.count_append, List.count_cons_self, List.count_eq_zero_of_not_mem ha] at h
      have : ((a.length : Int) == -1) = false := beq_eq_false_iff_ne.2 (by omega)
      rw [this]
      simp only [Int.toNat_natCast, Nat.add_zero, List.take_left', List.length_cons, List.length_nil, Bool.false_eq_true, if_false]
      rw [← splitK_cut c k r (by omega)]
      congr 1
      rw [show a ++ c :: r = (a ++ [c]) ++ r by simp, List.drop_left' (by simp)]
def cutB (c : UInt8) (s : ByteArray) : List ByteArray := (cutL c s.data.toList).map (⟨·.toArray⟩)
theorem map_back : ∀ (l : List ByteArray), (l.map (·.data.toList)).map (fun x : List UInt8 => (⟨x.toArray⟩ : ByteArray)) = l
  | [] => rfl
  | x :: l => by
    have := map_back l
    rw [List.map_cons, List.map_cons, this]
theorem countB_one (c : UInt8) (s : ByteArray) : countB s ⟨#[c]⟩ = s.data.toList.count c := by
  show count _ _ = _
  rw [← count_one]
theorem splitB_cut (c : UInt8) (s : ByteArray) : splitB ⟨#[c]⟩ 0 (countB s ⟨#[c]⟩) s = cutB c s := by
  have h := splitB_data ⟨#[c]⟩ 0 (countB s ⟨#[c]⟩) s
  rw [← map_back (splitB _ _ _ _), h]
  unfold cutB
  rw [show ((⟨#[c]⟩ : ByteArray).data.toList) = [c] from rfl, splitK_cut c _ _ (countB_one c s).symm]
theorem cutB_length (c : UInt8) (s : ByteArray) : (cutB c s).length = countB s ⟨#[c]⟩ + 1 := by
  rw [countB_one]; unfold cutB; rw [List.length_map, cutL_count]
theorem cutL_size (c : UInt8) : ∀ (l x : List UInt8), x ∈ cutL c l → x.length ≤ l.length
  | [], x, h => by simp [cutL] at h; simp [h]
  | b :: l, x, h => by
    unfold cutL at h
    split at h
    · simp at h
      rcases h with rfl | h
      · simp
      · have := cutL_size c l x h; simp; omega
    · have hne := cutL_ne c l
      cases hc : cutL c l with
      | nil => exact absurd hc hne
      | cons y ys =>
        rw [hc] at h
        simp at h
        rcases h with rfl | h
        · have := cutL_size c l y (by rw [hc]; simp); simp; omega
        · have := cutL_size c l x (by rw [hc]; simp [h]); simp; omega

/-! ### numbers -/
def digB (b : UInt8) : Bool := decide (48 ≤ b.toNat ∧ b.toNat ≤ 57)
def valL (acc : Nat) (l : List UInt8) : Nat := l.foldl (fun a b => 10 * a + (b.toNat - 48)) acc
theorem valL_nil (acc : Nat) : valL acc [] = acc := rfl
theorem valL_cons (acc : Nat) (b : UInt8) (l : List UInt8) : valL acc (b :: l) = valL (10 * acc + (b.toNat - 48)) l := by unfold valL; rw [List.foldl_cons]
def signL (l : List UInt8) : Bool := l.head? == some 45
def bodyL (l : List UInt8) : List UInt8 := if signL l then l.tail else l
/-- A number of at most d digits, read from a text. -/
def numL (d : Nat) (l : List UInt8) : Option Int :=
  if bodyL l = [] ∨ d < (bodyL l).length ∨ ((bodyL l).head? = some 48 ∧ 1 < l.length) then none
  else if (bodyL l).all digB then some (if signL l then -(valL 0 (bodyL l) : Int) else valL 0 (bodyL l)) else none

theorem valL_snoc : ∀ (l : List UInt8) (acc : Nat) (b : UInt8), valL acc (l ++ [b]) = 10 * valL acc l + (b.toNat - 48)
  | [], _, _ => rfl
  | a :: l, acc, b => by rw [List.cons_append, valL_cons, valL_snoc l, valL_cons]
theorem valL_ge : ∀ (l : List UInt8) (a : Nat), a ≤ valL a l
  | [], a => Nat.le_refl a
  | x :: l, a => by rw [valL_cons]; have := valL_ge l (10 * a + (x.toNat - 48)); omega
theorem valL_lt : ∀ (l : List UInt8) (a : Nat), l.all digB = true → valL a l < (a + 1) * 10 ^ l.length
  | [], a, _ => by rw [valL_nil]; simp
  | x :: l, a, h => by
    simp only [List.all_cons, Bool.and_eq_true] at h
    have h1 : 48 ≤ x.toNat ∧ x.toNat ≤ 57 := by simpa [digB] using h.1
    have := valL_lt l (10 * a + (x.toNat - 48)) h.2
    rw [valL_cons]
    refine Nat.lt_of_lt_of_le this ?_
    rw [List.length_cons, Nat.pow_succ, Nat.mul_comm (10 ^ l.length), ← Nat.mul_assoc]
    exact Nat.mul_le_mul_right _ (by omega)
theorem dig_of (u : Nat) (h : u < 10) : (UInt8.ofNat (48 + u)).toNat = 48 + u := by
  rw [UInt8.toNat_ofNat']; omega
theorem dig_back (b : UInt8) (h : digB b = true) : UInt8.ofNat (48 + (b.toNat - 48)) = b := by
  have h1 : 48 ≤ b.toNat ∧ b.toNat ≤ 57 := by simpa [digB] using h
  apply UInt8.toNat_inj.1
  rw [UInt8.toNat_ofNat']; omega
theorem dec_digits (u : Nat) : (decDigits u).all digB = true ∧ valL 0 (decDigits u) = u ∧ decDigits u ≠ [] ∧ ((decDigits u).head? = some 48 → u = 0) := by
  induction u using Nat.strongRecOn with
  | _ u ih =>
    rw [decDigits]
    by_cases h : u < 10
    · rw [dif_pos h]
      refine ⟨?_, ?_, by simp, ?_⟩
      · have := dig_of u h; simp only [List.all_cons, List.all_nil, Bool.and_true, digB, this, decide_eq_true_eq]; omega
      · rw [valL_cons, valL_nil, dig_of u h]; omega
      · intro e
        simp only [List.head?_cons, Option.some.injEq] at e
        have := congrArg UInt8.toNat e
        rw [dig_of u h] at this
        have h48 : (48 : UInt8).toNat = 48 := rfl
        omega
    · rw [dif_neg h]
      obtain ⟨i1, i2, i3, i4⟩ := ih (u / 10) (by omega)
      have hd := dig_of (u % 10) (by omega)
      refine ⟨?_, ?_, by simp, ?_⟩
      · rw [List.all_append, i1]; simp only [List.all_cons, List.all_nil, Bool.and_true, Bool.true_and, digB, hd, decide_eq_true_eq]; omega
      · rw [valL_snoc, i2, hd]; omega
      · intro e
        cases hc : decDigits (u / 10) with
        | nil => exact absurd hc i3
        | cons x xs =>
          rw [hc] at e i4
          have := i4 (by simpa using e)
          omega
theorem dec_of : ∀ (n : Nat) (l : List UInt8), l.length = n → l ≠ [] → l.all digB = true → (l.head? = some 48 → l.length = 1) → decDigits (valL 0 l) = l := by
  intro n
  induction n using Nat.strongRecOn with
  | _ n ih =>
    intro l hn hne hd h0
    rcases List.eq_nil_or_concat l with e | ⟨r, b, e⟩
    · exact absurd e hne
    · rw [List.concat_eq_append] at e
      subst e
      rw [List.all_append, Bool.and_eq_true] at hd
      have hb : digB b = true := by simpa using hd.2
      have hb1 : 48 ≤ b.toNat ∧ b.toNat ≤ 57 := by simpa [digB] using hb
      rw [valL_snoc]
      by_cases hr : r = []
      · subst hr
        rw [decDigits, dif_pos (by rw [valL_nil]; omega)]
        simp only [valL_nil, Nat.mul_zero, Nat.zero_add, List.nil_append]
        rw [dig_back b hb]
      · have hh : r.head? ≠ some 48 := by
          intro e
          have : (r ++ [b]).head? = some 48 := by
            cases r with
            | nil => exact absurd rfl hr
            | cons x xs => simpa using e
          have := h0 this
          have hr2 : r.length ≠ 0 := fun e => hr (List.eq_nil_of_length_eq_zero e)
          simp at this
          exact hr this
        have hi := ih r.length (by rw [← hn]; simp) r rfl hr hd.1 (fun e => absurd e hh)
        have hpos : 1 ≤ valL 0 r := by
          cases r with
          | nil => exact absurd rfl hr
          | cons x xs =>
            have hx : 48 ≤ x.toNat ∧ x.toNat ≤ 57 := by
              have := hd.1; simp only [List.all_cons, Bool.and_eq_true] at this; simpa [digB] using this.1
            have hx48 : x.toNat ≠ 48 := fun e => hh (by
              simp only [List.head?_cons]; congr 1; exact UInt8.toNat_inj.1 e)
            rw [valL_cons]
            have := valL_ge xs (10 * 0 + (x.toNat - 48))
            omega
        rw [decDigits, dif_neg (by omega), show (10 * valL 0 r + (b.toNat - 48)) / 10 = valL 0 r by omega, show (10 * valL 0 r + (b.toNat - 48)) % 10 = b.toNat - 48 by omega, hi, dig_back b hb]

theorem dec_nosign (u : Nat) : signL (decDigits u) = false := by
  obtain ⟨h1, _, h3, _⟩ := dec_digits u
  unfold signL
  cases hc : decDigits u with
  | nil => rfl
  | cons x xs =>
    rw [hc] at h1
    simp only [List.all_cons, Bool.and_eq_true] at h1
    have hx : 48 ≤ x.toNat ∧ x.toNat ≤ 57 := by simpa [digB] using h1.1
    simp only [List.head?_cons, beq_eq_false_iff_ne, ne_eq, Option.some.injEq]
    intro e
    rw [e] at hx
    have h45 : (45 : UInt8).toNat = 45 := rfl
    omega
theorem itoa_sign (v : Int) : signL (itoa v) = decide (v < 0) := by
  unfold itoa
  by_cases h : v < 0
  · rw [if_pos h]; simp [signL, h]
  · rw [if_neg h, dec_nosign]; simp [h]
theorem itoa_body (v : Int) : bodyL (itoa v) = decDigits v.natAbs := by
  unfold bodyL
  rw [itoa_sign]
  unfold itoa
  by_cases h : v < 0
  · rw [if_pos h]; simp [h]
  · rw [if_neg h]; simp [h]; congr 1; omega
/-- The text of a number is read back, if it has not too many digits. -/
theorem numL_itoa (d : Nat) (v : Int) (h : (bodyL (itoa v)).length ≤ d) : numL d (itoa v) = some v := by
  have hb := itoa_body v
  obtain ⟨h1, h2, h3, h4⟩ := dec_digits v.natAbs
  unfold numL
  rw [if_neg (by
    rintro (e | e | ⟨e, e2⟩)
    · rw [hb] at e; exact h3 e
    · omega
    · rw [hb] at e
      have h0 := h4 e
      have hv : v = 0 := by omega
      subst hv
      have e0 : itoa 0 = [48] := by
        unfold itoa; rw [if_neg (by omega), decDigits, dif_pos (by decide)]; rfl
      rw [e0] at e2
      simp at e2), hb, if_pos h1, h2, itoa_sign]
  congr 1
  by_cases hv : v < 0
  · simp [hv]; omega
  · simp [hv]; omega
theorem numL_some (d : Nat) (l : List UInt8) (v : Int) (h : numL d l = some v) : l = itoa v ∧ (bodyL l).length ≤ d := by
  unfold numL at h
  split at h
  · cases h
  · rename_i hn
    have n1 : bodyL l ≠ [] := fun e => hn (.inl e)
    have n2 : (bodyL l).length ≤ d := Nat.not_lt.1 fun e => hn (.inr (.inl e))
    have n3 : (bodyL l).head? = some 48 → l.length ≤ 1 := fun e => Nat.not_lt.1 fun e2 => hn (.inr (.inr ⟨e, e2⟩))
    split at h
    · rename_i hd
      refine ⟨?_, n2⟩
      injection h with h
      have hle : (bodyL l).length ≤ l.length := by unfold bodyL; split <;> simp
      have hpos : 1 ≤ (bodyL l).length := Nat.pos_of_ne_zero fun e => n1 (List.eq_nil_of_length_eq_zero e)
      have hdec := dec_of _ (bodyL l) rfl n1 hd (fun e => by have := n3 e; omega)
      by_cases hs : signL l = true
      · rw [if_pos hs] at h
        have hbl : bodyL l = l.tail := by unfold bodyL; rw [if_pos hs]
        have hl : l = 45 :: bodyL l := by
          cases l with
          | nil => simp [signL] at hs
          | cons x xs => rw [hbl]; simp [signL] at hs; simp [hs]
        have hv1 : 1 ≤ valL 0 (bodyL l) := by
          cases hc : bodyL l with
          | nil => exact absurd hc n1
          | cons x xs =>
            rw [hc] at hd n3 hl
            have hx : 48 ≤ x.toNat ∧ x.toNat ≤ 57 := by
              simp only [List.all_cons, Bool.and_eq_true] at hd; simpa [digB] using hd.1
            have hx48 : x.toNat ≠ 48 := fun e => by
              have hx8 : x = 48 := UInt8.toNat_inj.1 e
              have := n3 (by simp [hx8])
              rw [hl] at this
              simp at this
            rw [valL_cons]
            have := valL_ge xs (10 * 0 + (x.toNat - 48))
            omega
        rw [← h]
        unfold itoa
        rw [if_pos (by omega), show (-(valL 0 (bodyL l) : Int)).natAbs = valL 0 (bodyL l) by omega, hdec]
        exact hl
      · rw [if_neg hs] at h
        have hbl : bodyL l = l := by unfold bodyL; rw [if_neg hs]
        rw [← h]
        unfold itoa
        rw [if_neg (by omega), show ((valL 0 (bodyL l) : Int)).toNat = valL 0 (bodyL l) by omega, hdec, hbl]
    · cases h

theorem parseUint_digits : ∀ (l : List UInt8) (a : Nat), l.all digB = true → valL a l < 18446744073709551616 → parseUint10 a l = .ok (valL a l)
  | [], a, _, _ => rfl
  | x :: l, a, hd, hv => by
    simp only [List.all_cons, Bool.and_eq_true] at hd
    have hx : 48 ≤ x.toNat ∧ x.toNat ≤ 57 := by simpa [digB] using hd.1
    rw [valL_cons] at hv
    have hge := valL_ge l (10 * a + (x.toNat - 48))
    rw [parseUint10, if_pos hx, if_neg (by omega), if_neg (by omega), show a * 10 + (x.toNat - 48) = 10 * a + (x.toNat - 48) by omega, parseUint_digits l _ hd.2 hv]
    rfl
theorem atoi_itoa (v : Int) (h0 : -9223372036854775808 ≤ v) (h1 : v ≤ 9223372036854775807) : atoiAll (itoa v) = .ok v := by
  obtain ⟨d1, d2, d3, d4⟩ := dec_digits v.natAbs
  have hmag : parseMag (decDigits v.natAbs) = .ok v.natAbs := by
    unfold parseMag
    rw [if_neg d3, parseUint_digits _ _ d1 (by rw [d2]; omega), d2]
  unfold itoa
  by_cases hv : v < 0
  · rw [if_pos hv]
    simp only [atoiAll]
    rw [if_pos (Or.inr (by rfl)), hmag]
    simp only
    have e45 : (45 : UInt8).toNat = 45 := rfl
    rw [if_neg (by rintro ⟨e, _⟩; exact e e45), if_neg (by rintro ⟨_, e⟩; omega), if_pos e45]
    congr 1; omega
  · rw [if_neg hv, show v.toNat = v.natAbs by omega]
    cases hc : decDigits v.natAbs with
    | nil => exact absurd hc d3
    | cons x xs =>
      have hx : 48 ≤ x.toNat ∧ x.toNat ≤ 57 := by
        rw [hc] at d1; simp only [List.all_cons, Bool.and_eq_true] at d1; simpa [digB] using d1.1
      simp only [atoiAll]
      rw [if_neg (by omega), ← hc, hmag]
      simp only
      rw [if_neg (by rintro ⟨_, e⟩; omega), if_neg (by rintro ⟨e, _⟩; omega), if_neg (by omega)]
      congr 1; omega
/-- What the program reads as a number of at most d digits. -/
def numP (d : Nat) (l : List UInt8) : Option Int :=
  match atoiAll l with
  | .ok v => if itoa v = l ∧ (trimPrefix l [45]).length ≤ d then some v else none
  | _ => none
theorem trim_body (l : List UInt8) : trimPrefix l [45] = bodyL l := by
  unfold trimPrefix hasPrefix bodyL signL
  cases l with
  | nil => rfl
  | cons x xs =>
    by_cases h : x = 45
    · subst h; simp [List.isPrefixOf]
    · have h2 : ¬ (45 : UInt8) = x := Ne.symm h
      simp [List.isPrefixOf, h, h2]
theorem numL_bounds (d : Nat) (hd : d ≤ 18) (l : List UInt8) (v : Int) (h : numL d l = some v) : -1000000000000000000 < v ∧ v < 1000000000000000000 := by
  unfold numL at h
  split at h
  · cases h
  · rename_i hn
    have n2 : (bodyL l).length ≤ d := Nat.not_lt.1 fun e => hn (.inr (.inl e))
    split at h
    · rename_i hdg
      have hv := valL_lt _ 0 hdg
      have h18 : (10 : Nat) ^ (bodyL l).length ≤ 10 ^ 18 := Nat.pow_le_pow_right (by decide) (by omega)
      have e18 : (10 : Nat) ^ 18 = 1000000000000000000 := by decide
      rw [e18] at h18
      injection h with h
      split at h <;> omega
    · cases h
theorem numP_eq (d : Nat) (hd : d ≤ 18) (l : List UInt8) : numP d l = numL d l := by
  cases h : numL d l with
  | some v =>
    obtain ⟨h1, h2⟩ := numL_some d l v h
    obtain ⟨b0, b1⟩ := numL_bounds d hd l v h
    unfold numP
    rw [h1, atoi_itoa v (by omega) (by omega)]
    simp only
    rw [trim_body, if_pos ⟨trivial, by rw [← h1]; exact h2⟩]
  | none =>
    unfold numP
    cases ha : atoiAll l with
    | «syntax» => rfl
    | range => rfl
    | ok v =>
      simp only
      by_cases hc : itoa v = l ∧ (trimPrefix l [45]).length ≤ d
      · obtain ⟨c1, c2⟩ := hc
        rw [trim_body] at c2
        rw [← c1, numL_itoa d v (by rw [c1]; exact c2)] at h
        cases h
      · rw [if_neg hc]
/-! ### texts of bytes; lists of numbers -/
def strB (l : List UInt8) : ByteArray := ⟨l.toArray⟩
theorem strB_data (l : List UInt8) : (strB l).data.toList = l := rfl
theorem strB_size (a : List UInt8) : (strB a).size = a.length := by simp [strB, ByteArray.size]

def strsC (l : List ByteArray) : List Value := l.map Value.string
theorem strsC_at {l : List ByteArray} {j : Nat} (h : j < l.length) : (strsC l)[j]? = some (.string l[j]) := by simp [strsC, List.getElem?_eq_getElem h]
end Go.Proofs.YtmdbpkomanhpoaaGreatDoor
