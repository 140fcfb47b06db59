/- Plain law of the texts of marks: what is read, and that a right mark is read back. -/
import Derived.Test.YtjimdnmdnjhnjaaGreatDoorZgFcB
import Derived.Test.YtjimdnmdnjhnjaaGreatDoorTxA
namespace Go.Proofs.YtjimdnmdnjhnjaaGreatDoor
open Go.RowKit Go.Lib

theorem name_char {s : ByteArray} (h : nameB s = true) (c : UInt8) (hc : c ∈ s.data.toList) : letterB c.toNat = true ∨ c.toNat = 45 ∨ (48 ≤ c.toNat ∧ c.toNat ≤ 57) := by
  unfold nameB at h
  simp only [Bool.and_eq_true] at h
  obtain ⟨k, hk, hkc⟩ := List.getElem_of_mem hc
  have := (allB_iff _ _).1 h.1.1 k hk
  rw [hkc] at this
  unfold chB at this
  simp only [Bool.or_eq_true, Bool.and_eq_true, decide_eq_true_eq] at this
  rcases this with h | ⟨_, h | h⟩
  · exact .inl h
  · exact .inr (.inl (by omega))
  · exact .inr (.inr (by omega))
theorem name_nospace {s : ByteArray} (h : nameB s = true) : (32 : UInt8) ∉ s.data.toList ∧ (10 : UInt8) ∉ s.data.toList := by
  constructor
  · intro hc
    rcases name_char h 32 hc with e | e | e
    · exact absurd e (by decide)
    · exact absurd e (by decide)
    · exact absurd e (by decide)
  · intro hc
    rcases name_char h 10 hc with e | e | e
    · exact absurd e (by decide)
    · exact absurd e (by decide)
    · exact absurd e (by decide)

/-! ### marks -/
def markN (m : Mk) : List Int := [m.al, m.ah, m.dl, m.dh, m.lv]
/-- The words of a mark, and its text. -/
def markW (m : Mk) : List (List UInt8) := m.nm.data.toList :: (markN m).map itoa
def markT (m : Mk) : ByteArray := strB (join (markW m) [32])
def mkZ : Mk := ⟨⟨#[]⟩, 0, 0, 0, 0, 0⟩
def mkOf (nm : ByteArray) (vs : List Int) : Mk := ⟨nm, vs.getD 0 0, vs.getD 1 0, vs.getD 2 0, vs.getD 3 0, vs.getD 4 0⟩
/-- The mark with a text, and the error. -/
def markP (s : ByteArray) : Mk × Int :=
  let ws := cutL 32 s.data.toList
  if ws.length ≠ 6 ∨ (10 : UInt8) ∈ ws.headD [] then (mkZ, 7)
  else match numsL 10 ws.tail with
    | none => (mkZ, 7)
    | some vs => if markE (mkOf (strB (ws.headD [])) vs) = 0 then (mkOf (strB (ws.headD [])) vs, 0) else (mkZ, markE (mkOf (strB (ws.headD [])) vs))

theorem markE_fine {m : Mk} (h : markE m = 0) : nameB m.nm = true ∧ ∀ v ∈ markN m, v.natAbs < 10 ^ (9 + 1) := by
  unfold markE at h
  have h1 : nameB m.nm = true := by
    cases hn : nameB m.nm with
    | true => rfl
    | false => rw [hn] at h; simp [firstE, unlessE] at h
  have h2 : endsB m = true := by
    cases hn : endsB m with
    | true => rfl
    | false => rw [hn, h1] at h; simp [firstE, unlessE] at h
  have h3 : ordB m = true := by
    cases hn : ordB m with
    | true => rfl
    | false => rw [hn, h1, h2] at h; simp [firstE, unlessE] at h
  have h4 : levelE m.lv = 0 := by
    rw [h1, h2, h3] at h
    by_cases e : levelE m.lv = 0
    · exact e
    · simp [firstE, unlessE, e] at h
  refine ⟨h1, ?_⟩
  unfold endsB at h2
  unfold levelE at h4
  simp only [Bool.and_eq_true, wi, decide_eq_true_eq] at h2
  have h5 : wi m.lv 0 1000000000 = true := by
    cases hn : wi m.lv 0 1000000000 with
    | true => rfl
    | false => rw [hn] at h4; simp [unlessE] at h4
  simp only [wi, Bool.and_eq_true, decide_eq_true_eq] at h5
  intro v hv
  have e10 : (10 : Nat) ^ (9 + 1) = 10000000000 := by decide
  rw [e10]
  simp only [markN, List.mem_cons, List.not_mem_nil, or_false] at hv
  omega
/-- A right mark is read back. -/
theorem mark_back (m : Mk) (h : markE m = 0) : markP (markT m) = (m, 0) := by
  obtain ⟨h1, h2⟩ := markE_fine h
  obtain ⟨n1, n2⟩ := name_nospace h1
  have hc : cutL 32 (markT m).data.toList = markW m := by
    unfold markT
    rw [strB_data]
    refine cutL_join 32 _ (by simp [markW]) fun x hx => ?_
    simp only [markW, List.mem_cons, List.mem_map] at hx
    rcases hx with rfl | ⟨v, _, rfl⟩
    · exact n1
    · exact itoa_nospace v
  have hm : mkOf m.nm (markN m) = m := rfl
  unfold markP
  simp only [hc]
  rw [if_neg (by
    rintro (e | e)
    · exact e rfl
    · exact n2 e)]
  rw [show (markW m).tail = (markN m).map itoa from rfl, numsL_itoa 10 _ (fun v hv => itoa_body_le 9 v (h2 v hv))]
  simp only [show (markW m).headD [] = m.nm.data.toList from rfl, strB_back, hm, if_pos h]
end Go.Proofs.YtjimdnmdnjhnjaaGreatDoor
