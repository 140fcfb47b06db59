/- Contract: a number read from a text (base.Number). -/
import Derived.Test.YtaekcfancfoccaaGreatDoorZmZkCvM
import Derived.Test.YtaekcfancfoccaaGreatDoorZmTxC
namespace Go.Proofs.YtaekcfancfoccaaGreatDoor
open Go.RowKit Go.Lib

def numO (o : Option Int) : Value := match o with
  | some v => .tuple #[.int .i64 v, .bool true]
  | none => .tuple #[.int .i64 0, .bool false]
def signN (s : ByteArray) : Nat := if signL s.data.toList then 1 else 0
theorem signN_le (s : ByteArray) : signN s ≤ s.size ∧ signN s ≤ 1 := by
  unfold signN
  cases h : signL s.data.toList with
  | false => simp
  | true =>
    rw [← size_list]
    cases hl : s.data.toList with
    | nil => rw [hl] at h; simp [signL] at h
    | cons x xs => simp
theorem signL_at (s : ByteArray) (h : 0 < s.size) : signL s.data.toList = (((s[0].toNat : Nat) : Int) == 45) := by
  have h0 : s.data.toList[0]? = some s[0] := by
    rw [List.getElem?_eq_getElem (by rw [size_list]; exact h)]; rfl
  unfold signL
  rw [List.head?_eq_getElem?, h0]
  cases he : (((s[0].toNat : Nat) : Int) == 45) with
  | true =>
    have : s[0].toNat = 45 := by have := beq_iff_eq.1 he; omega
    have : s[0] = 45 := UInt8.toNat_inj.1 this
    rw [this]; rfl
  | false =>
    have : ¬ s[0].toNat = 45 := by
      intro e
      rw [beq_eq_false_iff_ne] at he
      omega
    rw [beq_eq_false_iff_ne]
    intro e
    injection e with e
    rw [e] at this
    exact this rfl

theorem body_drop (s : ByteArray) : bodyL s.data.toList = s.data.toList.drop (signN s) := by
  unfold bodyL signN
  split
  · rw [List.drop_one]
  · rw [List.drop_zero]
theorem body_len (s : ByteArray) : (bodyL s.data.toList).length = s.size - signN s := by rw [body_drop, List.length_drop, size_list]
theorem num_empty (d : Nat) (s : ByteArray) (h : s.size = signN s) : numL d s.data.toList = none := by
  unfold numL
  rw [if_pos (Or.inl (List.eq_nil_of_length_eq_zero (by rw [body_len]; omega)))]
theorem num_long (d : Nat) (s : ByteArray) (h : d < s.size - signN s) : numL d s.data.toList = none := by
  unfold numL
  rw [if_pos (Or.inr (Or.inl (by rw [body_len]; exact h)))]
theorem body_head (s : ByteArray) (h : signN s < s.size) : (bodyL s.data.toList).head? = some s[signN s] := by
  rw [body_drop, List.head?_drop, List.getElem?_eq_getElem (by rw [size_list]; exact h)]
  rfl
theorem num_zero (d : Nat) (s : ByteArray) (h : signN s < s.size) (h0 : s[signN s].toNat = 48) (h1 : 1 < s.size) : numL d s.data.toList = none := by
  unfold numL
  have hh : (bodyL s.data.toList).head? = some 48 := by rw [body_head s h, show s[signN s] = 48 from UInt8.toNat_inj.1 h0]
  rw [if_pos (Or.inr (Or.inr ⟨hh, by rw [size_list]; exact h1⟩))]
def NumS (s : ByteArray) (k : Nat) (v : Int) : Prop :=
  signN s + k ≤ s.size ∧ v = (valL 0 ((bodyL s.data.toList).take k) : Nat) ∧ ((bodyL s.data.toList).take k).all digB = true
theorem NumS.start (s : ByteArray) : NumS s 0 0 := ⟨(signN_le s).1, by simp [valL_nil], by simp⟩
theorem take_next (s : ByteArray) (k : Nat) (h : signN s + k < s.size) : (bodyL s.data.toList).take (k + 1) = (bodyL s.data.toList).take k ++ [s[signN s + k]] := by
  rw [List.take_add_one, body_drop, List.getElem?_drop, List.getElem?_eq_getElem (by rw [size_list]; exact h)]
  rfl
theorem NumS.next {s : ByteArray} {k : Nat} {v : Int} (h : NumS s k v) (hk : signN s + k < s.size) (h1 : 48 ≤ s[signN s + k].toNat) (h2 : s[signN s + k].toNat ≤ 57) :
    NumS s (k + 1) (10 * v + ((s[signN s + k].toNat : Int) - 48)) := by
  obtain ⟨_, e1, e2⟩ := h
  refine ⟨by omega, ?_, ?_⟩
  · rw [take_next s k hk, valL_snoc, e1]; omega
  · rw [take_next s k hk, List.all_append, e2]
    simp only [List.all_cons, List.all_nil, digB, Bool.and_true, Bool.true_and, decide_eq_true_eq]
    exact ⟨h1, h2⟩
theorem NumS.lt {s : ByteArray} {k : Nat} {v : Int} (h : NumS s k v) (hk : k ≤ 17) : 0 ≤ v ∧ v < 100000000000000000 := by
  obtain ⟨_, e1, e2⟩ := h
  have hv := valL_lt _ 0 e2
  have hl : ((bodyL s.data.toList).take k).length ≤ 17 := by rw [List.length_take]; omega
  have h17 : (10 : Nat) ^ ((bodyL s.data.toList).take k).length ≤ 10 ^ 17 := Nat.pow_le_pow_right (by decide) hl
  have e17 : (10 : Nat) ^ 17 = 100000000000000000 := by decide
  rw [e17] at h17
  omega
theorem NumS.lt18 {s : ByteArray} {k : Nat} {v : Int} (h : NumS s k v) (hk : k ≤ 18) : 0 ≤ v ∧ v < 1000000000000000000 := by
  obtain ⟨_, e1, e2⟩ := h
  have hv := valL_lt _ 0 e2
  have hl : ((bodyL s.data.toList).take k).length ≤ 18 := by rw [List.length_take]; omega
  have h17 : (10 : Nat) ^ ((bodyL s.data.toList).take k).length ≤ 10 ^ 18 := Nat.pow_le_pow_right (by decide) hl
  have e17 : (10 : Nat) ^ 18 = 1000000000000000000 := by decide
  rw [e17] at h17
  omega
theorem NumS.bad {s : ByteArray} {k : Nat} {v : Int} (d : Nat) (_h : NumS s k v) (hk : signN s + k < s.size) (h1 : ¬ (48 ≤ s[signN s + k].toNat ∧ s[signN s + k].toNat ≤ 57)) : numL d s.data.toList = none := by
  unfold numL
  split
  · rfl
  · rw [if_neg]
    intro hall
    have hm : s[signN s + k] ∈ bodyL s.data.toList := by
      rw [body_drop]
      exact List.mem_of_getElem? (i := k) (by rw [List.getElem?_drop, List.getElem?_eq_getElem (by rw [size_list]; exact hk)]; rfl)
    have := List.all_eq_true.1 hall _ hm
    exact h1 (by simpa [digB] using this)
theorem NumS.done {s : ByteArray} {k : Nat} {v : Int} {d : Nat} (h : NumS s k v) (hk : signN s + k = s.size) (h0 : ¬ s.size = signN s) (h1 : ¬ d < s.size - signN s) (h2 : ¬ (signN s < s.size ∧ (∃ h : signN s < s.size, s[signN s].toNat = 48) ∧ 1 < s.size)) :
    numL d s.data.toList = some (if signL s.data.toList then -v else v) := by
  obtain ⟨_, e1, e2⟩ := h
  rw [List.take_of_length_le (by rw [body_len]; omega)] at e1 e2
  have hlt : signN s < s.size := by have := (signN_le s).1; omega
  unfold numL
  rw [if_neg, if_pos e2, e1]
  rintro (e | e | ⟨e, e3⟩)
  · have := congrArg List.length e
    rw [body_len] at this
    simp at this; omega
  · rw [body_len] at e; exact h1 e
  · rw [body_head s hlt] at e
    rw [size_list] at e3
    injection e with e
    exact h2 ⟨hlt, ⟨hlt, by rw [e]; rfl⟩, e3⟩

set_option maxRecDepth 100000 in
set_option maxHeartbeats 1000000 in
theorem number_any (s : ByteArray) (d : Nat) (hd : d ≤ 18) (hs : s.size ≤ 1000000) (w : World) :
    Calls Tryz.prog 53 #[.string s, .int .i64 d] w fun e w' => e = .returned (numO (numL d s.data.toList)) ∧ w = w' := by
  obtain ⟨o, ho⟩ : ∃ o, numL d s.data.toList = o := ⟨_, rfl⟩
  rw [ho]
  have HO := Lib.hid ho
  have HA := signN_le s
  obtain ⟨a, ha⟩ : ∃ a, signN s = a := ⟨_, rfl⟩
  have H0 : Hid (s.size = a → o = none) := Lib.hid fun h => by rw [← ho]; exact num_empty d s (by rw [ha]; exact h)
  have H1 : Hid (d < s.size - a → o = none) := Lib.hid fun h => by rw [← ho]; exact num_long d s (by rw [ha]; exact h)
  have H2 : Hid (∀ h : a < s.size, s[a].toNat = 48 → 1 < s.size → o = none) := Lib.hid fun h h0 h1 => by
    subst ha; rw [← ho]; exact num_zero d s h h0 h1
  have HS : Hid (NumS s 0 0) := Lib.hid (NumS.start s)
  have HN : Hid (∀ k v (h : NumS s k v) (hk : a + k < s.size) (h1 : 48 ≤ s[a + k].toNat) (h2 : s[a + k].toNat ≤ 57), NumS s (k + 1) (10 * v + ((s[a + k].toNat : Int) - 48))) := Lib.hid fun k v h hk h1 h2 => by
    subst ha; exact h.next hk h1 h2
  have HB : Hid (∀ k v (h : NumS s k v) (hk : a + k < s.size), ¬ (48 ≤ s[a + k].toNat ∧ s[a + k].toNat ≤ 57) → o = none) := Lib.hid fun k v h hk h1 => by
    subst ha; rw [← ho]; exact h.bad d hk h1
  have HD : Hid (∀ k v (h : NumS s k v), a + k = s.size → ¬ s.size = a → ¬ d < s.size - a → ¬ (a < s.size ∧ (∃ h : a < s.size, s[a].toNat = 48) ∧ 1 < s.size) → o = some (if signL s.data.toList then -v else v)) := Lib.hid fun k v h hk h0 h1 h2 => by
    subst ha; rw [← ho]; exact h.done hk h0 h1 h2
  rw [ha] at HA
  have HSG : Hid (∀ h : 0 < s.size, signL s.data.toList = (((s[0].toNat : Nat) : Int) == 45)) := Lib.hid fun h => signL_at s h
  have HAA : Hid (a = if signL s.data.toList then 1 else 0) := Lib.hid ha.symm
  clear ho ha
  by_cases h0 : s.size = 0
  · obtain rfl : a = 0 := by omega
    have HE := Lib.hid (H0.out h0)
    rw [HE.out]
    go_enter Tryz.func53, Tryz.ntmps53
    go_wp2
    go_ret2
    exact ⟨rfl, rfl⟩
  have hp : 0 < s.size := by omega
  have hsg := HSG.out hp
  obtain ⟨sg, hs45⟩ : ∃ sg, (((s[0].toNat : Nat) : Int) == 45) = sg := ⟨_, rfl⟩
  rw [hs45] at hsg
  have haa := HAA.out
  rw [hsg] at haa HD
  clear HAA HSG hsg
  by_cases c0 : s.size = a
  · have HE := Lib.hid (H0.out c0)
    rw [HE.out]
    cases sg
    · obtain rfl : a = 0 := by simpa using haa
      omega
    · obtain rfl : a = 1 := by simpa using haa
      have c1 : ((s.size : Int) == 1) = true := by simp; omega
      clear haa
      go_enter Tryz.func53, Tryz.ntmps53
      go_wp2
      go_ret2
      exact ⟨rfl, rfl⟩
  have c0' : ((s.size : Int) == (a : Int)) = false := by rw [beq_eq_false_iff_ne]; omega
  by_cases c1 : d < s.size - a
  · have HE := Lib.hid (H1.out c1)
    rw [HE.out]
    have c1' : decide ((d : Int) < (s.size : Int) - (a : Int)) = true := by rw [decide_eq_true_eq]; omega
    cases sg
    · obtain rfl : a = 0 := by simpa using haa
      clear haa
      go_enter Tryz.func53, Tryz.ntmps53
      go_wp2
      go_ret2
      exact ⟨rfl, rfl⟩
    · obtain rfl : a = 1 := by simpa using haa
      clear haa
      go_enter Tryz.func53, Tryz.ntmps53
      go_wp2
      go_ret2
      exact ⟨rfl, rfl⟩
  have c1' : decide ((d : Int) < (s.size : Int) - (a : Int)) = false := by rw [decide_eq_false_iff_not]; omega
  have hlt : a < s.size := by omega
  by_cases c2 : s[a].toNat = 48 ∧ 1 < s.size
  · have HE := Lib.hid (H2.out hlt c2.1 c2.2)
    rw [HE.out]
    have c2' : (((s[a].toNat : Nat) : Int) == 48) = true := by rw [beq_iff_eq]; omega
    have c3 : decide ((1 : Int) < (s.size : Int)) = true := by rw [decide_eq_true_eq]; omega
    have c4 := c2.2
    clear c2
    cases sg
    · obtain rfl : a = 0 := by simpa using haa
      clear haa
      go_enter Tryz.func53, Tryz.ntmps53
      go_wp2
      go_ret2
      exact ⟨rfl, rfl⟩
    · obtain rfl : a = 1 := by simpa using haa
      clear haa
      go_enter Tryz.func53, Tryz.ntmps53
      go_wp2
      go_ret2
      exact ⟨rfl, rfl⟩
  -- the digits
  have HP0 : Hid (a ≤ a ∧ NumS s (a - a) 0) := Lib.hid ⟨Nat.le_refl _, by rw [Nat.sub_self]; exact HS.out⟩
  have HPN : Hid (∀ i v (h : a ≤ i ∧ NumS s (i - a) v) (hi : i < s.size), 48 ≤ s[i].toNat → s[i].toNat ≤ 57 → a ≤ i + 1 ∧ NumS s (i + 1 - a) (10 * v + ((s[i].toNat : Int) - 48))) := Lib.hid fun i v h hi h1 h2 => by
    obtain ⟨k, rfl⟩ : ∃ k, i = a + k := ⟨i - a, by omega⟩
    refine ⟨by omega, ?_⟩
    rw [show a + k + 1 - a = k + 1 by omega]
    exact HN.out k v (by have := h.2; rwa [show a + k - a = k by omega] at this) hi h1 h2
  have HPB : Hid (∀ i v (h : a ≤ i ∧ NumS s (i - a) v) (hi : i < s.size), ¬ (48 ≤ s[i].toNat ∧ s[i].toNat ≤ 57) → o = none) := Lib.hid fun i v h hi h1 => by
    obtain ⟨k, rfl⟩ : ∃ k, i = a + k := ⟨i - a, by omega⟩
    exact HB.out k v (by have := h.2; rwa [show a + k - a = k by omega] at this) hi h1
  have HPD : Hid (∀ v (h : a ≤ s.size ∧ NumS s (s.size - a) v), o = some (if sg = true then -v else v)) := Lib.hid fun v h =>
    HD.out (s.size - a) v h.2 (by omega) c0 c1 (by rintro ⟨_, ⟨_, e⟩, e2⟩; exact c2 ⟨e, e2⟩)
  have HPL : Hid (∀ i v (h : a ≤ i ∧ NumS s (i - a) v), i < s.size → 0 ≤ v ∧ v < 100000000000000000) := Lib.hid fun i v h hi => h.2.lt (by omega)
  have HPL2 : Hid (∀ i v (h : a ≤ i ∧ NumS s (i - a) v), i ≤ s.size → 0 ≤ v ∧ v < 1000000000000000000) := Lib.hid fun i v h hi => h.2.lt18 (by omega)
  have c2' : ((((s[a].toNat : Nat) : Int) == 48) = false) ∨ ((((s[a].toNat : Nat) : Int) == 48) = true ∧ s.size = 1) := by
    by_cases e : s[a].toNat = 48
    · exact .inr ⟨by rw [beq_iff_eq]; omega, by omega⟩
    · exact .inl (by rw [beq_eq_false_iff_ne]; omega)
  have hal : a ≤ s.size := HA.1
  clear H0 H1 H2 HS HN HB HD HO c0 c1 c2 HA h0
  cases sg
  · obtain rfl : a = 0 := by simpa using haa
    clear haa
    have n0 : ¬ s = ByteArray.empty := fun e => by subst e; exact absurd hp (by decide)
    have n1 : ((s.size : Int) == 0) = false := c0'
    have n2 : ¬ d < s.size := by rw [decide_eq_false_iff_not] at c1'; omega
    rcases c2' with c2' | ⟨c2', c3⟩
    · go_enter Tryz.func53, Tryz.ntmps53
      go_wp2
      go_loopw [7, 8] (fun s7 s8 wr => ∃ (i : Nat) (v : Int), s7 = .int .i64 v ∧ s8 = .int .i64 i ∧ i ≤ s.size ∧ Hid (0 ≤ i ∧ NumS s (i - 0) v) ∧ w = wr) (fun _ i _ => s.size - (intOf i).toNat)
      case atStart => exact ⟨0, 0, rfl, rfl, hal, HP0, rfl⟩
      case round =>
        obtain ⟨i, v, rfl, rfl, hi, HI, rfl⟩ := hrel
        by_cases hlt2 : i < s.size
        · have hvb := HPL.out i v HI.out hlt2
          have hcb : s[i].toNat < 256 := s[i].toNat_lt
          by_cases hdg : 48 ≤ s[i].toNat ∧ s[i].toNat ≤ 57
          · have HX := Lib.hid (HPN.out i v HI.out hlt2 hdg.1 hdg.2)
            obtain ⟨h1, h2⟩ := hdg
            have g1 : decide (((s[i].toNat : Nat) : Int) < 48) = false := by rw [decide_eq_false_iff_not]; omega
            have g2 : decide ((57 : Int) < ((s[i].toNat : Nat) : Int)) = false := by rw [decide_eq_false_iff_not]; omega
            go_wp2
            exact ⟨⟨i + 1, _, rfl, by go_num, by omega, HX, by first | trivial | rfl⟩, by simp [intOf]; omega⟩
          · have HE := Lib.hid (HPB.out i v HI.out hlt2 hdg)
            have g0 : decide (((s[i].toNat : Nat) : Int) < 48) = true ∨ (decide (((s[i].toNat : Nat) : Int) < 48) = false ∧ decide ((57 : Int) < ((s[i].toNat : Nat) : Int)) = true) := by
              by_cases e : s[i].toNat < 48
              · exact .inl (by rw [decide_eq_true_eq]; omega)
              · exact .inr ⟨by rw [decide_eq_false_iff_not]; omega, by rw [decide_eq_true_eq]; omega⟩
            clear hdg
            rcases g0 with g1 | ⟨g1, g2⟩
            · go_wp2
              go_ret2
              exact ⟨by rw [HE.out]; rfl, rfl⟩
            · go_wp2
              go_ret2
              exact ⟨by rw [HE.out]; rfl, rfl⟩
        · obtain rfl : i = s.size := by omega
          have hvb := HPL2.out s.size v HI.out (Nat.le_refl _)
          have HE := Lib.hid (HPD.out v HI.out)
          go_wp2
          go_ret2
          exact ⟨by rw [HE.out]; rfl, rfl⟩
    · have n3 : decide ((1 : Int) < (s.size : Int)) = false := by rw [decide_eq_false_iff_not]; omega
      clear c3
      go_enter Tryz.func53, Tryz.ntmps53
      go_wp2
      go_loopw [7, 8] (fun s7 s8 wr => ∃ (i : Nat) (v : Int), s7 = .int .i64 v ∧ s8 = .int .i64 i ∧ i ≤ s.size ∧ Hid (0 ≤ i ∧ NumS s (i - 0) v) ∧ w = wr) (fun _ i _ => s.size - (intOf i).toNat)
      case atStart => exact ⟨0, 0, rfl, rfl, hal, HP0, rfl⟩
      case round =>
        obtain ⟨i, v, rfl, rfl, hi, HI, rfl⟩ := hrel
        by_cases hlt2 : i < s.size
        · have hvb := HPL.out i v HI.out hlt2
          have hcb : s[i].toNat < 256 := s[i].toNat_lt
          by_cases hdg : 48 ≤ s[i].toNat ∧ s[i].toNat ≤ 57
          · have HX := Lib.hid (HPN.out i v HI.out hlt2 hdg.1 hdg.2)
            obtain ⟨h1, h2⟩ := hdg
            have g1 : decide (((s[i].toNat : Nat) : Int) < 48) = false := by rw [decide_eq_false_iff_not]; omega
            have g2 : decide ((57 : Int) < ((s[i].toNat : Nat) : Int)) = false := by rw [decide_eq_false_iff_not]; omega
            go_wp2
            exact ⟨⟨i + 1, _, rfl, by go_num, by omega, HX, by first | trivial | rfl⟩, by simp [intOf]; omega⟩
          · have HE := Lib.hid (HPB.out i v HI.out hlt2 hdg)
            have g0 : decide (((s[i].toNat : Nat) : Int) < 48) = true ∨ (decide (((s[i].toNat : Nat) : Int) < 48) = false ∧ decide ((57 : Int) < ((s[i].toNat : Nat) : Int)) = true) := by
              by_cases e : s[i].toNat < 48
              · exact .inl (by rw [decide_eq_true_eq]; omega)
              · exact .inr ⟨by rw [decide_eq_false_iff_not]; omega, by rw [decide_eq_true_eq]; omega⟩
            clear hdg
            rcases g0 with g1 | ⟨g1, g2⟩
            · go_wp2
              go_ret2
              exact ⟨by rw [HE.out]; rfl, rfl⟩
            · go_wp2
              go_ret2
              exact ⟨by rw [HE.out]; rfl, rfl⟩
        · obtain rfl : i = s.size := by omega
          have hvb := HPL2.out s.size v HI.out (Nat.le_refl _)
          have HE := Lib.hid (HPD.out v HI.out)
          go_wp2
          go_ret2
          exact ⟨by rw [HE.out]; rfl, rfl⟩
  · obtain rfl : a = 1 := by simpa using haa
    clear haa
    have n1 : ((s.size : Int) == 1) = false := c0'
    have n2 : decide ((d : Int) < (s.size : Int) - 1) = false := c1'
    have n3 : decide ((1 : Int) < (s.size : Int)) = true := by rw [decide_eq_true_eq]; omega
    rcases c2' with c2' | ⟨c2', c3⟩
    · go_enter Tryz.func53, Tryz.ntmps53
      go_wp2
      go_loopw [7, 8] (fun s7 s8 wr => ∃ (i : Nat) (v : Int), s7 = .int .i64 v ∧ s8 = .int .i64 i ∧ i ≤ s.size ∧ Hid (1 ≤ i ∧ NumS s (i - 1) v) ∧ w = wr) (fun _ i _ => s.size - (intOf i).toNat)
      case atStart => exact ⟨1, 0, rfl, rfl, hal, HP0, rfl⟩
      case round =>
        obtain ⟨i, v, rfl, rfl, hi, HI, rfl⟩ := hrel
        by_cases hlt2 : i < s.size
        · have hvb := HPL.out i v HI.out hlt2
          have hcb : s[i].toNat < 256 := s[i].toNat_lt
          by_cases hdg : 48 ≤ s[i].toNat ∧ s[i].toNat ≤ 57
          · have HX := Lib.hid (HPN.out i v HI.out hlt2 hdg.1 hdg.2)
            obtain ⟨h1, h2⟩ := hdg
            have g1 : decide (((s[i].toNat : Nat) : Int) < 48) = false := by rw [decide_eq_false_iff_not]; omega
            have g2 : decide ((57 : Int) < ((s[i].toNat : Nat) : Int)) = false := by rw [decide_eq_false_iff_not]; omega
            go_wp2
            exact ⟨⟨i + 1, _, rfl, by go_num, by omega, HX, by first | trivial | rfl⟩, by simp [intOf]; omega⟩
          · have HE := Lib.hid (HPB.out i v HI.out hlt2 hdg)
            have g0 : decide (((s[i].toNat : Nat) : Int) < 48) = true ∨ (decide (((s[i].toNat : Nat) : Int) < 48) = false ∧ decide ((57 : Int) < ((s[i].toNat : Nat) : Int)) = true) := by
              by_cases e : s[i].toNat < 48
              · exact .inl (by rw [decide_eq_true_eq]; omega)
              · exact .inr ⟨by rw [decide_eq_false_iff_not]; omega, by rw [decide_eq_true_eq]; omega⟩
            clear hdg
            rcases g0 with g1 | ⟨g1, g2⟩
            · go_wp2
              go_ret2
              exact ⟨by rw [HE.out]; rfl, rfl⟩
            · go_wp2
              go_ret2
              exact ⟨by rw [HE.out]; rfl, rfl⟩
        · obtain rfl : i = s.size := by omega
          have hvb := HPL2.out s.size v HI.out (Nat.le_refl _)
          have HE := Lib.hid (HPD.out v HI.out)
          go_wp2
          go_ret2
          exact ⟨by rw [HE.out]; rfl, rfl⟩
    · omega
end Go.Proofs.YtaekcfancfoccaaGreatDoor
