/- Contracts: copies of events and of what became of steps; whether a step is valid; the plain law of a calibration. -/
import Derived.Test.YtlbpogklkkninaaGreatDoorZoOtC
namespace Go.Proofs.YtlbpogklkkninaaGreatDoor
open Go.RowKit

def evF (x : Ev) : List Value := [.int .i64 x.mi, .int .i64 x.st, .int .i64 x.wa]
theorem evF_len (x : Ev) : (evF x).length = 3 := rfl
theorem infoEv : (Tryz.prog.info? 182).map (fun i => (i.zero, i.size, i.bytes)) = some (some (.agg #[.int .i64 0, .int .i64 0, .int .i64 0]), 3, 24) := by kernel_rfl
theorem rowsEv_one (l : List Ev) : ∀ u ∈ rowsC evF l, u.oneCell' = true := by
  intro u hu
  simp only [rowsC, List.mem_flatMap] at hu
  obtain ⟨p, _, hp⟩ := hu
  simp [evF] at hp
  rcases hp with rfl | rfl | rfl <;> rfl
theorem rowsLa_one (l : List La) : ∀ u ∈ rowsC laF l, u.oneCell' = true := by
  intro u hu
  simp only [rowsC, List.mem_flatMap] at hu
  obtain ⟨p, _, hp⟩ := hu
  simp [laF] at hp
  rcases hp with rfl | rfl | rfl | rfl <;> rfl

set_option maxRecDepth 100000 in
set_option maxHeartbeats 1000000 in
theorem cloneLa_any (l : List La) (A : Option Addr) (c : Nat) (w : World) (hS : Src w 4 A l.length c (rowsC laF l)) (hl : l.length ≤ 1000000) :
    Calls Tryz.prog 178 #[.slice A l.length c] w fun e w' => ∃ v, e = .returned v ∧ w'.ownsRow w.heap.size 250 4 v l.length (rowsC laF l) ∧ Below w.heap.size w w' := by
  obtain ⟨i0, hi, hz0, hz1, hz2⟩ := info_parts infoLa
  cases A with
  | none =>
    have h0 : l.length = 0 := by
      rcases Nat.eq_zero_or_pos l.length with h | h
      · exact h
      · obtain ⟨_, _, hR⟩ := hS; obtain ⟨_, _, h, _⟩ := hR.2 h; cases h
    obtain rfl : c = 0 := hS.1 rfl
    obtain rfl : l = [] := List.eq_nil_of_length_eq_zero h0
    clear h0 hS hl
    have heq : ∀ W : World, (binOp .eql 247 (.slice none 0 0) (.slice none 0 0)).run Tryz.prog W = .ok (.bool true) W := fun W => Lib.run_eql_slice_nil W _ _ _ _ _ _ _ Tryz.underlying247
    go_enter Tryz.func178, Tryz.ntmps178
    go_wp2
    go_ret
    exact ⟨_, rfl, World.ownsRow_nil _ _ _ _, Below.refl _ _⟩
  | some a =>
    have own := own_empty w 250 4
    have hB3 : Below w.heap.size w (w.alloc (.cells #[] 250)) := (Below.refl _ _).alloc (Nat.le_refl _) _
    have hS2 : Src (w.alloc (.cells #[] 250)) 4 (some a) l.length c (rowsC laF l) := hS.alloc _
    have HS := Lib.hid hS2; clear hS hS2
    have heq : ∀ W : World, (binOp .eql 247 (.slice (some a) l.length c) (.slice none 0 0)).run Tryz.prog W = .ok (.bool false) W := fun W => Lib.run_eql_slice_nil W _ _ _ _ _ _ _ Tryz.underlying247
    go_enter Tryz.func178, Tryz.ntmps178
    go_wp2_with (at_builtin; refine wpList_append_row rfl _ _ 247 rfl w.heap.size 250 i0 (.agg #[.bool false, .bool false, .int .i64 0, .int .i64 0]) 4 24 Tryz.underlying247 hi hz0 hz1 hz2 rfl (by decide) _ _ _ rfl own (some a) l.length c (rowsC laF l) rfl HS.out (rowsLa_one _) (by unfold maxLen; omega) (by omega) (by simp) ?_)
    intro v3 w3 own3 hgrow _
    have hB4 : Below w.heap.size w w3 := below_own hB3 (by omega) own hgrow
    try simp only [Nat.zero_add, List.nil_append] at own3
    go_wp2
    go_ret
    exact ⟨_, rfl, own3, hB4⟩

set_option maxRecDepth 100000 in
set_option maxHeartbeats 1000000 in
theorem cloneEv_any (l : List Ev) (A : Option Addr) (c : Nat) (w : World) (hS : Src w 3 A l.length c (rowsC evF l)) (hl : l.length ≤ 1000000) :
    Calls Tryz.prog 115 #[.slice A l.length c] w fun e w' => ∃ v, e = .returned v ∧ w'.ownsRow w.heap.size 182 3 v l.length (rowsC evF l) ∧ Below w.heap.size w w' := by
  obtain ⟨i0, hi, hz0, hz1, hz2⟩ := info_parts infoEv
  cases A with
  | none =>
    have h0 : l.length = 0 := by
      rcases Nat.eq_zero_or_pos l.length with h | h
      · exact h
      · obtain ⟨_, _, hR⟩ := hS; obtain ⟨_, _, h, _⟩ := hR.2 h; cases h
    obtain rfl : c = 0 := hS.1 rfl
    obtain rfl : l = [] := List.eq_nil_of_length_eq_zero h0
    clear h0 hS hl
    have heq : ∀ W : World, (binOp .eql 90 (.slice none 0 0) (.slice none 0 0)).run Tryz.prog W = .ok (.bool true) W := fun W => Lib.run_eql_slice_nil W _ _ _ _ _ _ _ Tryz.underlying90
    go_enter Tryz.func115, Tryz.ntmps115
    go_wp2
    go_ret
    exact ⟨_, rfl, World.ownsRow_nil _ _ _ _, Below.refl _ _⟩
  | some a =>
    have own := own_empty w 182 3
    have hB3 : Below w.heap.size w (w.alloc (.cells #[] 182)) := (Below.refl _ _).alloc (Nat.le_refl _) _
    have hS2 : Src (w.alloc (.cells #[] 182)) 3 (some a) l.length c (rowsC evF l) := hS.alloc _
    have HS := Lib.hid hS2; clear hS hS2
    have heq : ∀ W : World, (binOp .eql 90 (.slice (some a) l.length c) (.slice none 0 0)).run Tryz.prog W = .ok (.bool false) W := fun W => Lib.run_eql_slice_nil W _ _ _ _ _ _ _ Tryz.underlying90
    go_enter Tryz.func115, Tryz.ntmps115
    go_wp2_with (at_builtin; refine wpList_append_row rfl _ _ 90 rfl w.heap.size 182 i0 (.agg #[.int .i64 0, .int .i64 0, .int .i64 0]) 3 24 Tryz.underlying90 hi hz0 hz1 hz2 rfl (by decide) _ _ _ rfl own (some a) l.length c (rowsC evF l) rfl HS.out (rowsEv_one _) (by unfold maxLen; omega) (by omega) (by simp) ?_)
    intro v3 w3 own3 hgrow _
    have hB4 : Below w.heap.size w w3 := below_own hB3 (by omega) own hgrow
    try simp only [Nat.zero_add, List.nil_append] at own3
    go_wp2
    go_ret
    exact ⟨_, rfl, own3, hB4⟩

/-- Whether a step is valid at a minute. -/
def validV (l : List St) (L : List La) (i : Nat) (m : Int) : Bool := (untilF l L 11 i).2 && decide (m ≤ (untilF l L 11 i).1)
set_option maxRecDepth 100000 in
set_option maxHeartbeats 1000000 in
theorem valid_any (l : List St) (A : Option Addr) (c B bk base g cap : Nat) (L : List La) (hr : Hid (StRight l)) (hmi : Hid (∀ a ∈ L, 0 ≤ a.mi ∧ a.mi ≤ 100000000)) (i : Nat) (m : Int) (w : World) (hil : i < l.length) (hb : BkOk l A c B bk base g cap L w) :
    Calls Tryz.prog 152 #[.pointer (some ⟨bk, 0, none⟩), .int .i64 i, .int .i64 m] w fun e w' => e = .returned (.bool (validV l L i m)) ∧ Below w.heap.size w w' := by
  have HC := Lib.hid (until_any l A c B bk base g cap L hr hmi 11 i w (by have := hb.wid; omega) hil hb)
  unfold validV
  clear hb hr hmi hil
  obtain ⟨u, hu⟩ : ∃ u, untilF l L 11 i = u := ⟨_, rfl⟩
  rw [hu] at HC ⊢
  clear hu
  obtain ⟨um, ub⟩ := u
  go_enter Tryz.func152, Tryz.ntmps152
  go_wp2_with fail
  refine HC.out.mono ?_
  rintro e w1 ⟨rfl, hB1⟩
  cases ub
  · go_wp2
    go_ret
    exact ⟨rfl, hB1⟩
  · go_wp2
    all_goals
      go_ret
      exact ⟨by simp, hB1⟩

theorem firstE_zero {e : Nat → Int} {n : Nat} (h : (firstE e n).2 = 0) : FineTo e n := by
  intro j hj
  refine Classical.byContradiction fun hne => ?_
  have : ∃ k, k < n ∧ FineTo e k ∧ e k ≠ 0 := by
    refine Classical.byContradiction fun hno => ?_
    have hF : ∀ k, k ≤ n → FineTo e k := fun k => by
      induction k with
      | zero => exact fun _ => FineTo.zero e
      | succ k ih => exact fun hk => (ih (by omega)).step (Classical.byContradiction fun he => hno ⟨k, by omega, ih (by omega), he⟩)
    exact hne (hF n (Nat.le_refl _) j hj)
  obtain ⟨k, hk, hF, he⟩ := this
  rw [firstE_bad hF hk he] at h
  exact he h
theorem wi_true {n lo hi : Int} (h : wi n lo hi = true) : lo ≤ n ∧ n ≤ hi := by unfold wi at h; simpa using h
theorem stepsE_right {l : List St} (h : (stepsE l).2 = 0) : 0 < l.length ∧ l.length ≤ 10 ∧ StRight l := by
  unfold stepsE at h
  split at h
  · cases h
  · split at h
    · cases h
    · refine ⟨by omega, by omega, fun i hi => ?_⟩
      have h1 := firstE_zero h i hi
      rw [stepE_at hi] at h1
      split at h1
      · cases h1
      split at h1
      · cases h1
      split at h1
      · cases h1
      split at h1
      · cases h1
      rename_i _ _ q3 q4
      refine ⟨wi_true (by simpa using q3), wi_true (by simpa using q4), fun n hn => ?_⟩
      obtain ⟨k, hk, rfl⟩ := List.getElem_of_mem hn
      have h2 := firstE_zero h1 k hk
      rcases k with _ | k
      · rw [needE_zero hk] at h2
        split at h2
        · cases h2
        · rename_i q; exact wi_true (by simpa using q)
      · rw [needE_succ hk] at h2
        split at h2
        · cases h2
        · rename_i q; exact wi_true (by simpa using q)
/-- Whether a minute lies ahead of one before. -/
def prevB (p : Option Int) (m : Int) : Bool := match p with | none => false | some q => decide (m < q)
/-- The error of an event behind a book. -/
def evE (l : List St) (L : List La) (p : Option Int) (x : Ev) : Int :=
  if wi x.mi 0 100000000 = false then 2 else if wi x.st (-1) ((l.length : Int) - 1) = false then 6 else if wi x.wa (-2000) 2000 = false then 2 else if prevB p x.mi = true then 9 else
    if x.st = -1 then 0 else match l[x.st.toNat]? with
      | none => 0
      | some s => if (s.needs.all fun n => validV l (addL l ⟨x.mi, -1, x.wa⟩ L) n.toNat x.mi) = true then 0 else 20
/-- The book behind events. -/
def bookL (l : List St) (evs : List Ev) : List La := evs.foldl (fun L x => addL l x L) (List.replicate l.length laZ)
theorem bookL_snoc (l : List St) (evs : List Ev) {k : Nat} (h : k < evs.length) : bookL l (evs.take (k + 1)) = addL l evs[k] (bookL l (evs.take k)) := fold_snoc _ _ _ h
/-- The error of an event among events. -/
def evsQ (l : List St) (evs : List Ev) (k : Nat) : Int := match evs[k]? with
  | none => 0
  | some x => evE l (bookL l (evs.take k)) (if k = 0 then none else (evs[k - 1]?).map (·.mi)) x
theorem evsQ_at {l : List St} {evs : List Ev} {k : Nat} (h : k < evs.length) : evsQ l evs k = evE l (bookL l (evs.take k)) (if k = 0 then none else (evs[k - 1]?).map (·.mi)) evs[k] := by unfold evsQ; rw [List.getElem?_eq_getElem h]
/-- The error of steps and events, with a number. -/
def followE (l : List St) (evs : List Ev) : Int × Int := if (stepsE l).2 = 0 then (if 60 < evs.length then (0, 8) else firstE (evsQ l evs) evs.length) else (0, (stepsE l).2)
theorem addL_mem {l : List St} {x : Ev} {L : List La} {a : La} (h : a ∈ addL l x L) : ∃ i b, b ∈ L ∧ (a = b ∨ (∃ s : St, a = addQ s x i b)) := by
  obtain ⟨i, hi, rfl⟩ := List.getElem_of_mem h
  rw [addL_length] at hi
  refine ⟨i, L[i], List.getElem_mem hi, ?_⟩
  have e : (addL l x L)[i]? = some (match l[i]? with | some s => addQ s x i L[i] | none => L[i]) := by unfold addL; rw [List.getElem?_mapIdx, List.getElem?_eq_getElem hi]; rfl
  rw [List.getElem?_eq_getElem (by rw [addL_length]; exact hi)] at e
  rw [Option.some.inj e]
  cases l[i]? with
  | none => exact .inl rfl
  | some s => exact .inr ⟨s, rfl⟩
theorem addL_mi {l : List St} {x : Ev} {L : List La} (hx : x.st = -1 ∨ (0 ≤ x.mi ∧ x.mi ≤ 100000000)) (h : ∀ a ∈ L, 0 ≤ a.mi ∧ a.mi ≤ 100000000) : ∀ a ∈ addL l x L, 0 ≤ a.mi ∧ a.mi ≤ 100000000 := by
  intro a ha
  obtain ⟨i, b, hb, rfl | ⟨s, rfl⟩⟩ := addL_mem ha
  · exact h _ hb
  · unfold addQ
    split
    · rcases hx with hx | hx
      · rename_i e; rw [hx] at e; omega
      · exact hx
    · split
      · exact h b hb
      · split
        · exact h b hb
        · exact h b hb
end Go.Proofs.YtlbpogklkkninaaGreatDoor
