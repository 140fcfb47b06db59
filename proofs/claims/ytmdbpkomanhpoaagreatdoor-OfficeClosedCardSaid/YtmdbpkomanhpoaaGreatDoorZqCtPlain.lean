/- Plain mathematics of tracks: ranges that are scanned, and those that must be scanned anew, as canonical lists of ranges. -/
namespace CtPlain

/-- A list of ranges has a number. -/
def Has (l : List (Int × Int)) (x : Int) : Prop := ∃ r ∈ l, r.1 ≤ x ∧ x ≤ r.2

/-- Ascending ranges, none empty, the first not before b, a number missing between two of them. -/
def Canon : Int → List (Int × Int) → Prop
  | _, [] => True
  | b, r :: t => b ≤ r.1 ∧ r.1 ≤ r.2 ∧ Canon (r.2 + 2) t

theorem has_nil (x : Int) : ¬ Has [] x := fun ⟨_, h, _⟩ => by cases h
theorem has_cons (r : Int × Int) (t : List (Int × Int)) (x : Int) : Has (r :: t) x ↔ (r.1 ≤ x ∧ x ≤ r.2) ∨ Has t x := by
  constructor
  · rintro ⟨s, hs, hx⟩
    cases hs with
    | head => exact .inl hx
    | tail _ h => exact .inr ⟨s, h, hx⟩
  · rintro (h | ⟨s, hs, hx⟩)
    · exact ⟨r, by simp, h⟩
    · exact ⟨s, by simp [hs], hx⟩
theorem has_append (a b : List (Int × Int)) (x : Int) : Has (a ++ b) x ↔ Has a x ∨ Has b x := by
  induction a with
  | nil => simp [has_nil]
  | cons r t ih => rw [List.cons_append, has_cons, has_cons, ih, or_assoc]

/-! ### the program: ranges of sorted readings, joined -/

/-- The range of a reading. -/
def rng (frm to slip reach p : Int) : Int × Int := (max frm (p + slip - reach), min to (p - slip + reach))

/-- One more range, put behind others. -/
def put (out : List (Int × Int)) (r : Int × Int) : List (Int × Int) :=
  if r.2 < r.1 then out
  else match out.getLast? with
    | some s => if r.1 ≤ s.2 + 1 then out.dropLast ++ [(s.1, max s.2 r.2)] else out ++ [r]
    | none => out ++ [r]

def join (frm to slip reach : Int) (ps : List Int) : List (Int × Int) := ps.foldl (fun out p => put out (rng frm to slip reach p)) []

/-- The greatest end of ranges; `b` if there is none. -/
theorem canon_snoc : ∀ (l : List (Int × Int)) (b : Int) (r : Int × Int), Canon b (l ++ [r]) ↔ Canon b l ∧ (∀ s ∈ l, s.2 + 2 ≤ r.1) ∧ b ≤ r.1 ∧ r.1 ≤ r.2
  | [], b, r => by simp [Canon]
  | s :: t, b, r => by
    have ih := canon_snoc t (s.2 + 2) r
    simp only [List.cons_append, Canon, ih, List.mem_cons, forall_eq_or_imp]
    constructor
    · rintro ⟨h1, h2, h3, h4, h5, h6⟩
      exact ⟨⟨h1, h2, h3⟩, ⟨h5, h4⟩, by omega, h6⟩
    · rintro ⟨⟨h1, h2, h3⟩, ⟨h5, h4⟩, _, h6⟩
      exact ⟨h1, h2, h3, h4, h5, h6⟩

theorem canon_mem : ∀ (l : List (Int × Int)) (b : Int), Canon b l → ∀ s ∈ l, b ≤ s.1 ∧ s.1 ≤ s.2
  | [], _, _, s, h => by cases h
  | r :: t, b, ⟨h1, h2, h3⟩, s, h => by
    rcases List.mem_cons.1 h with rfl | h
    · exact ⟨h1, h2⟩
    · have := canon_mem t _ h3 s h; omega

/-- Behind ranges that begin at most at r, a range r is put. -/
theorem put_ok {b : Int} {out : List (Int × Int)} {r : Int × Int} (hc : Canon b out) (hb : b ≤ r.1) (hle : ∀ s ∈ out, s.1 ≤ r.1) :
    Canon b (put out r) ∧ (∀ s ∈ put out r, s.1 ≤ r.1) ∧ ∀ x, Has (put out r) x ↔ Has out x ∨ (r.1 ≤ x ∧ x ≤ r.2) := by
  unfold put
  split
  · exact ⟨hc, hle, fun x => ⟨.inl, fun h => h.elim id (fun h => by omega)⟩⟩
  · rename_i hne
    rcases List.eq_nil_or_concat out with rfl | ⟨l, s, rfl⟩
    · simp only [List.getLast?_nil, List.nil_append]
      exact ⟨⟨hb, by omega, trivial⟩, by simp, fun x => by rw [has_cons]; simp [has_nil]⟩
    · simp only [List.concat_eq_append, List.getLast?_append, List.getLast?_singleton, Option.some_or, List.dropLast_concat] at hc hle ⊢
      obtain ⟨c1, c2, c3, c4⟩ := (canon_snoc _ _ _).1 hc
      have hs : s.1 ≤ r.1 := hle s (by simp)
      split
      · rename_i hj
        refine ⟨(canon_snoc _ _ _).2 ⟨c1, c2, c3, by omega⟩, ?_, ?_⟩
        · intro u hu
          rcases List.mem_append.1 hu with hu | hu
          · exact hle u (by simp [hu])
          · simp at hu; subst hu; exact hs
        · intro x
          rw [has_append, has_append, has_cons, has_cons]
          simp only [has_nil, or_false]
          constructor
          · rintro (h | h)
            · exact .inl (.inl h)
            · by_cases hx : x ≤ s.2
              · exact .inl (.inr ⟨h.1, hx⟩)
              · exact .inr ⟨by omega, by omega⟩
          · rintro ((h | h) | h)
            · exact .inl h
            · exact .inr ⟨h.1, by omega⟩
            · exact .inr ⟨by omega, by omega⟩
      · rename_i hj
        refine ⟨(canon_snoc _ _ _).2 ⟨hc, ?_, hb, by omega⟩, ?_, ?_⟩
        · intro u hu
          rcases List.mem_append.1 hu with hu | hu
          · have := c2 u hu; omega
          · simp at hu; subst hu; omega
        · intro u hu
          rcases List.mem_append.1 hu with hu | hu
          · exact hle u hu
          · simp at hu; subst hu; omega
        · intro x
          rw [has_append, has_cons]
          simp [has_nil]

theorem join_ok (frm to slip reach : Int) : ∀ (ps qs : List Int), (qs ++ ps).Pairwise (· ≤ ·) → ∀ out, Canon frm out → (∀ s ∈ out, ∀ p ∈ ps, s.1 ≤ (rng frm to slip reach p).1) →
    Canon frm (ps.foldl (fun out p => put out (rng frm to slip reach p)) out) ∧
    ∀ x, Has (ps.foldl (fun out p => put out (rng frm to slip reach p)) out) x ↔ Has out x ∨ ∃ p ∈ ps, (rng frm to slip reach p).1 ≤ x ∧ x ≤ (rng frm to slip reach p).2
  | [], _, _, out, hc, _ => ⟨hc, fun x => by simp⟩
  | p :: ps, qs, hs, out, hc, hle => by
    have hp := put_ok (r := rng frm to slip reach p) hc (by simp only [rng]; omega) (fun s hs' => hle s hs' p (by simp))
    have hs2 : ((qs ++ [p]) ++ ps).Pairwise (· ≤ ·) := by simpa using hs
    have hpp : ∀ q ∈ ps, p ≤ q := by
      have := (List.pairwise_append.1 hs).2.1
      exact (List.pairwise_cons.1 this).1
    have ih := join_ok frm to slip reach ps (qs ++ [p]) hs2 _ hp.1 (fun s hs' q hq => by
      have h1 := hp.2.1 s hs'
      have h2 := hpp q hq
      simp only [rng] at h1 ⊢
      omega)
    refine ⟨ih.1, fun x => ?_⟩
    rw [List.foldl_cons, ih.2, hp.2.2]
    simp only [List.mem_cons, exists_eq_or_imp, or_assoc]

/-- What is surely scanned: canonical, and just the positions of the track that a reading has scanned. -/
theorem join_spec (frm to slip reach : Int) (ps : List Int) (hs : ps.Pairwise (· ≤ ·)) :
    Canon frm (join frm to slip reach ps) ∧ ∀ x, Has (join frm to slip reach ps) x ↔ (frm ≤ x ∧ x ≤ to) ∧ ∃ p ∈ ps, p + slip - reach ≤ x ∧ x ≤ p - slip + reach := by
  have h := join_ok frm to slip reach ps [] (by simpa using hs) [] trivial (fun s hs => by cases hs)
  refine ⟨h.1, fun x => ?_⟩
  show Has (ps.foldl _ []) x ↔ _
  rw [h.2]
  simp only [has_nil, false_or, rng]
  constructor
  · rintro ⟨p, hp, h1, h2⟩
    exact ⟨by omega, p, hp, by omega⟩
  · rintro ⟨h0, p, hp, h1, h2⟩
    exact ⟨p, hp, by omega, by omega⟩

/-! ### the program: what is left -/

/-- What lies between ranges, from a number on; the last range of the list ends it. -/
def left : Int → List (Int × Int) → List (Int × Int)
  | _, [] => []
  | at_, r :: t => (if at_ < r.1 then [(at_, r.1 - 1)] else []) ++ left (r.2 + 1) t

def anew (frm to : Int) (l : List (Int × Int)) : List (Int × Int) := left frm (l ++ [(to + 1, to + 1)])

end CtPlain
