/- Plain law of the texts of set-ups: what is read, and that a right set-up is read back. -/
import Derived.Test.YtkbggcencmjgfaaGreatDoorZkCvH
import Derived.Test.YtkbggcencmjgfaaGreatDoorTxA
namespace Go.Proofs.YtkbggcencmjgfaaGreatDoor
open Go.RowKit Go.Lib

theorem name_char {s : ByteArray} (h : nameB s = true) (c : UInt8) (hc : c ∈ s.data.toList) : letterB c.toNat = true ∨ c.toNat = 45 ∨ (48 ≤ c.toNat ∧ c.toNat ≤ 57) := by
  unfold nameB at h
  simp only [Bool.and_eq_true] at h
  obtain ⟨k, hk, hkc⟩ := List.getElem_of_mem hc
  have := (allB_iff _ _).1 h.1.1 k hk
  rw [hkc] at this
  unfold chB at this
  simp only [Bool.or_eq_true, Bool.and_eq_true, decide_eq_true_eq] at this
  rcases this with h | ⟨_, h | h⟩
  · exact .inl h
  · exact .inr (.inl (by omega))
  · exact .inr (.inr (by omega))
theorem name_nospace {s : ByteArray} (h : nameB s = true) : (32 : UInt8) ∉ s.data.toList ∧ (10 : UInt8) ∉ s.data.toList := by
  constructor
  · intro hc
    rcases name_char h 32 hc with e | e | e
    · exact absurd e (by decide)
    · exact absurd e (by decide)
    · exact absurd e (by decide)
  · intro hc
    rcases name_char h 10 hc with e | e | e
    · exact absurd e (by decide)
    · exact absurd e (by decide)
    · exact absurd e (by decide)

/-! ### set-ups -/
def suN (s : Su) : List Int := [s.at_, s.side, s.legs, s.ln, s.ld, s.mn, s.md, s.tn, s.td]
def suW (nm : ByteArray) (s : Su) : List (List UInt8) := nm.data.toList :: (suN s).map itoa
def suT (nm : ByteArray) (s : Su) : ByteArray := strB (join (suW nm s) [32])
def suZ : Su := ⟨0, 0, 0, 0, 0, 0, 0, 0, 0⟩
def suOf (vs : List Int) : Su := ⟨vs.getD 0 0, vs.getD 1 0, vs.getD 2 0, vs.getD 3 0, vs.getD 4 0, vs.getD 5 0, vs.getD 6 0, vs.getD 7 0, vs.getD 8 0⟩
/-- The set-up with a text, and the error. -/
def suP (s : ByteArray) : (ByteArray × Su) × Int :=
  let ws := cutL 32 s.data.toList
  if ws.length ≠ 10 ∨ (10 : UInt8) ∈ ws.headD [] then ((⟨#[]⟩, suZ), 7)
  else match numsL 9 ws.tail with
    | none => ((⟨#[]⟩, suZ), 7)
    | some vs => if setupE (strB (ws.headD [])) (suOf vs) = 0 then ((strB (ws.headD []), suOf vs), 0) else ((⟨#[]⟩, suZ), setupE (strB (ws.headD [])) (suOf vs))
theorem setupE_fine {nm : ByteArray} {s : Su} (h : setupE nm s = 0) : nameB nm = true ∧ ∀ v ∈ suN s, v.natAbs < 10 ^ (8 + 1) := by
  unfold setupE at h
  have h1 : nameB nm = true := by
    cases hn : nameB nm with
    | true => rfl
    | false => rw [hn, if_pos rfl] at h; omega
  rw [h1, if_neg (by simp)] at h
  have h2 : wi s.at_ (-20000) 20000 = true := by
    cases hn : wi s.at_ (-20000) 20000 with
    | true => rfl
    | false => rw [hn, if_pos rfl] at h; omega
  rw [h2, if_neg (by simp)] at h
  have h3 : kindB s = true := by
    cases hn : kindB s with
    | true => rfl
    | false => rw [hn, if_pos rfl] at h; omega
  rw [h3, if_neg (by simp)] at h
  have h4 : tanE s.ln s.ld = 0 := by
    by_cases e : tanE s.ln s.ld = 0
    · exact e
    · rw [if_pos e] at h; exact h
  rw [if_neg (by simp [h4])] at h
  have h5 : tanE s.mn s.md = 0 := by
    by_cases e : tanE s.mn s.md = 0
    · exact e
    · rw [if_pos e] at h; exact h
  rw [if_neg (by simp [h5])] at h
  have h6 : tanE s.tn s.td = 0 := by
    by_cases e : tanE s.tn s.td = 0
    · exact e
    · rw [if_pos e] at h; exact h
  have t4 := tanE_zero h4
  have t5 := tanE_zero h5
  have t6 := tanE_zero h6
  unfold kindB at h3
  simp only [wi, Bool.and_eq_true, Bool.or_eq_true, decide_eq_true_eq] at h2 h3
  refine ⟨h1, fun v hv => ?_⟩
  have e10 : (10 : Nat) ^ (8 + 1) = 1000000000 := by decide
  rw [e10]
  simp only [suN, List.mem_cons, List.not_mem_nil, or_false] at hv
  omega
/-- A right set-up is read back. -/
theorem su_back (nm : ByteArray) (s : Su) (h : setupE nm s = 0) : suP (suT nm s) = ((nm, s), 0) := by
  obtain ⟨h1, h2⟩ := setupE_fine h
  obtain ⟨n1, n2⟩ := name_nospace h1
  have hc : cutL 32 (suT nm s).data.toList = suW nm s := by
    unfold suT
    rw [strB_data]
    refine cutL_join 32 _ (by simp [suW]) fun x hx => ?_
    simp only [suW, List.mem_cons, List.mem_map] at hx
    rcases hx with rfl | ⟨v, _, rfl⟩
    · exact n1
    · exact itoa_nospace v
  have hm : suOf (suN s) = s := rfl
  unfold suP
  simp only [hc]
  rw [if_neg (by
    rintro (e | e)
    · exact e rfl
    · exact n2 e)]
  rw [show (suW nm s).tail = (suN s).map itoa from rfl, numsL_itoa 9 _ (fun v hv => itoa_body_le 8 v (h2 v hv))]
  simp only [show (suW nm s).headD [] = nm.data.toList from rfl, strB_back, hm, if_pos h]

/-! ### what is read, word by word -/
/-- The first k numbers of a text are read. -/
def ParS (s : ByteArray) (k : Nat) (ns : List Int) : Prop := ns.length = k ∧ numsL 9 ((cutL 32 s.data.toList).tail.take k) = some ns
def nmOf (s : ByteArray) : ByteArray := strB ((cutL 32 s.data.toList).headD [])
theorem ParS.start (s : ByteArray) : ParS s 0 [] := ⟨rfl, by simp [numsL]⟩
theorem tail_at {s : ByteArray} {k : Nat} (h : k + 1 < (cutL 32 s.data.toList).length) : (cutL 32 s.data.toList).tail.take (k + 1) = (cutL 32 s.data.toList).tail.take k ++ [(cutL 32 s.data.toList)[k + 1]] := by
  rw [List.take_add_one, List.getElem?_tail, List.getElem?_eq_getElem h]
  rfl
theorem ParS.next {s : ByteArray} {k : Nat} {ns : List Int} {v : Int} (h : ParS s k ns) (hk : k + 1 < (cutL 32 s.data.toList).length) (hv : numL 9 (cutL 32 s.data.toList)[k + 1] = some v) : ParS s (k + 1) (ns ++ [v]) :=
  ⟨by rw [List.length_append, h.1]; rfl, by rw [tail_at hk]; exact numsL_snoc 9 _ _ _ _ h.2 hv⟩
theorem suP_len {s : ByteArray} (h : (cutL 32 s.data.toList).length ≠ 10) : suP s = ((⟨#[]⟩, suZ), 7) := by
  unfold suP; simp only []; rw [if_pos (Or.inl h)]
theorem suP_line {s : ByteArray} (h : (10 : UInt8) ∈ (nmOf s).data.toList) : suP s = ((⟨#[]⟩, suZ), 7) := by
  have h' : (10 : UInt8) ∈ (cutL 32 s.data.toList).headD [] := h
  unfold suP; simp only []; rw [if_pos (Or.inr h')]
theorem suP_bad {s : ByteArray} {k : Nat} (hk : k + 1 < (cutL 32 s.data.toList).length) (hv : numL 9 (cutL 32 s.data.toList)[k + 1] = none) : suP s = ((⟨#[]⟩, suZ), 7) := by
  unfold suP; simp only []
  split
  · rfl
  · rw [numsL_none 9 _ _ (List.mem_of_getElem? (i := k) (by rw [List.getElem?_tail, List.getElem?_eq_getElem hk])) hv]
theorem suP_done {s : ByteArray} {ns : List Int} (h6 : (cutL 32 s.data.toList).length = 10) (hn : (10 : UInt8) ∉ (nmOf s).data.toList) (h : ParS s 9 ns) :
    suP s = if setupE (nmOf s) (suOf ns) = 0 then ((nmOf s, suOf ns), 0) else ((⟨#[]⟩, suZ), setupE (nmOf s) (suOf ns)) := by
  have h2 := h.2
  rw [List.take_of_length_le (by rw [List.length_tail]; omega)] at h2
  have hn' : (10 : UInt8) ∉ (cutL 32 s.data.toList).headD [] := hn
  unfold suP; simp only []
  rw [if_neg (by rintro (e | e); exact e h6; exact hn' e), h2]
  rfl
theorem numsL_wf : ∀ (l : List (List UInt8)) (ns : List Int), numsL 9 l = some ns → ∀ v ∈ ns, -1000000000000000000 < v ∧ v < 1000000000000000000
  | [], ns, h => by simp only [numsL, Option.some.injEq] at h; subst h; intro v hv; simp at hv
  | x :: l, ns, h => by
    rw [numsL_cons] at h
    cases hx : numL 9 x with
    | none => rw [hx] at h; cases h
    | some a =>
      cases hl : numsL 9 l with
      | none => rw [hx, hl] at h; cases h
      | some vr =>
        rw [hx, hl] at h
        simp only [Option.some.injEq] at h
        subst h
        intro v hv
        simp only [List.mem_cons] at hv
        rcases hv with rfl | hv
        · exact numL_bounds 9 (by decide) x _ hx
        · exact numsL_wf l vr hl v hv
theorem su_wf {ns : List Int} (h : ∀ v ∈ ns, -1000000000000000000 < v ∧ v < 1000000000000000000) : (suOf ns).wf := by
  have g : ∀ i, I64 (ns.getD i 0) := fun i => by
    rw [List.getD_eq_getElem?_getD]
    cases hi : ns[i]? with
    | none => simp [I64]
    | some v => have := h v (List.mem_of_getElem? hi); simp [I64]; omega
  exact ⟨g 0, g 1, g 2, g 3, g 4, g 5, g 6, g 7, g 8⟩
theorem ParS.wf {s : ByteArray} {k : Nat} {ns : List Int} (h : ParS s k ns) : (suOf ns).wf := su_wf (numsL_wf _ _ h.2)
theorem suOf_set (nm : ByteArray) {k : Nat} {ns : List Int} (hk : ns.length = k) (h5 : k < 9) (v : Int) : (suC nm (suOf ns)).setIfInBounds (k + 1) (.int .i64 v) = suC nm (suOf (ns ++ [v])) := by
  subst hk
  match ns, h5 with
  | [], _ => rfl
  | [_], _ => rfl
  | [_, _], _ => rfl
  | [_, _, _], _ => rfl
  | [_, _, _, _], _ => rfl
  | [_, _, _, _, _], _ => rfl
  | [_, _, _, _, _, _], _ => rfl
  | [_, _, _, _, _, _, _], _ => rfl
  | [_, _, _, _, _, _, _, _], _ => rfl
theorem size_list0 (s : ByteArray) : s.data.toList.length = s.size := by rw [Array.length_toList]; rfl
theorem nmOf_size (s : ByteArray) : (nmOf s).size ≤ s.size := by
  have hne := cutL_ne 32 s.data.toList
  unfold nmOf
  rw [strB_size, ← size_list0 s]
  cases hc : cutL 32 s.data.toList with
  | nil => exact absurd hc hne
  | cons x xs => exact cutL_size 32 _ _ (by rw [hc]; simp)
end Go.Proofs.YtkbggcencmjgfaaGreatDoor
