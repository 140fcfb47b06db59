/- Plain mathematics of tracks: the ranges that the reference walks through are the canonical ones. -/
import Derived.Test.YtfbnpfhnffahdaaGreatDoorCtPlain
namespace CtPlain

/-- A position is surely scanned by one of the readings. -/
def Sc (slip reach : Int) (ps : List Int) (x : Int) : Bool := ps.any fun p => decide (p + slip - reach ≤ x) && decide (x ≤ p - slip + reach)
theorem sc_iff (slip reach : Int) (ps : List Int) (x : Int) : Sc slip reach ps x = true ↔ ∃ p ∈ ps, p + slip - reach ≤ x ∧ x ≤ p - slip + reach := by
  simp [Sc]

/-- The next position at which something begins or ends: one reading more. -/
def nextP (slip reach at_ n p : Int) : Int :=
  let n1 := if at_ < p + slip - reach then min n (p + slip - reach) else n
  if at_ < p - slip + reach + 1 then min n1 (p - slip + reach + 1) else n1
def nextS (slip reach at_ : Int) (n : Int) (ps : List Int) : Int := ps.foldl (nextP slip reach at_) n
theorem nextP_le (slip reach at_ n p : Int) : nextP slip reach at_ n p ≤ n := by unfold nextP; simp only; split <;> split <;> omega
theorem nextP_gt (slip reach at_ n p : Int) (h : at_ < n) : at_ < nextP slip reach at_ n p := by unfold nextP; simp only; split <;> split <;> omega
theorem nextS_le (slip reach at_ : Int) : ∀ (ps : List Int) (n : Int), nextS slip reach at_ n ps ≤ n
  | [], _ => Int.le_refl _
  | _ :: ps, _ => Int.le_trans (nextS_le slip reach at_ ps _) (nextP_le ..)
theorem nextS_gt (slip reach at_ : Int) : ∀ (ps : List Int) (n : Int), at_ < n → at_ < nextS slip reach at_ n ps
  | [], _, h => h
  | _ :: ps, _, h => nextS_gt slip reach at_ ps _ (nextP_gt _ _ _ _ _ h)
theorem nextS_mem (slip reach at_ : Int) : ∀ (ps : List Int) (n : Int), ∀ p ∈ ps,
    (at_ < p + slip - reach → nextS slip reach at_ n ps ≤ p + slip - reach) ∧ (at_ < p - slip + reach + 1 → nextS slip reach at_ n ps ≤ p - slip + reach + 1)
  | [], n, p, h => by cases h
  | q :: ps, n, p, h => by
    rcases List.mem_cons.1 h with rfl | h
    · have h1 := nextS_le slip reach at_ ps (nextP slip reach at_ n p)
      have h2 : (at_ < p + slip - reach → nextP slip reach at_ n p ≤ p + slip - reach) ∧ (at_ < p - slip + reach + 1 → nextP slip reach at_ n p ≤ p - slip + reach + 1) := by
        unfold nextP; simp only; constructor <;> intro h <;> (repeat' split) <;> omega
      show (_ → nextS slip reach at_ (nextP slip reach at_ n p) ps ≤ _) ∧ (_ → nextS slip reach at_ (nextP slip reach at_ n p) ps ≤ _)
      exact ⟨fun h => by have := h2.1 h; omega, fun h => by have := h2.2 h; omega⟩
    · exact nextS_mem slip reach at_ ps (nextP slip reach at_ n q) p h
theorem sc_same (slip reach at_ n : Int) (ps : List Int) (x : Int) (h1 : at_ ≤ x) (h2 : x < nextS slip reach at_ n ps) : Sc slip reach ps x = Sc slip reach ps at_ := by
  have hm := nextS_mem slip reach at_ ps n
  rw [Bool.eq_iff_iff, sc_iff, sc_iff]
  constructor
  · rintro ⟨p, hp, h3, h4⟩
    refine ⟨p, hp, ?_, by omega⟩
    by_cases hq : p + slip - reach ≤ at_
    · exact hq
    · have := (hm p hp).1 (by omega); omega
  · rintro ⟨p, hp, h3, h4⟩
    refine ⟨p, hp, by omega, ?_⟩
    have := (hm p hp).2 (by omega); omega

/-- One stretch more. -/
def addS (out : List (Int × Int)) (at_ next : Int) : List (Int × Int) :=
  match out.getLast? with
  | some s => if s.2 = at_ - 1 then out.dropLast ++ [(s.1, next - 1)] else out ++ [(at_, next - 1)]
  | none => out ++ [(at_, next - 1)]
theorem addS_nil (at_ next : Int) : addS [] at_ next = [(at_, next - 1)] := rfl
theorem addS_join {l : List (Int × Int)} {s : Int × Int} {at_ next : Int} (h : s.2 = at_ - 1) : addS (l ++ [s]) at_ next = l ++ [(s.1, next - 1)] := by
  simp [addS, h]
theorem addS_far {l : List (Int × Int)} {s : Int × Int} {at_ next : Int} (h : ¬ s.2 = at_ - 1) : addS (l ++ [s]) at_ next = l ++ [s] ++ [(at_, next - 1)] := by
  simp [addS, h]
theorem addS_len (out : List (Int × Int)) (at_ next : Int) : (addS out at_ next).length ≤ out.length + 1 := by
  rcases List.eq_nil_or_concat out with rfl | ⟨l, s, rfl⟩
  · simp [addS]
  · simp only [List.concat_eq_append]
    by_cases h : s.2 = at_ - 1
    · rw [addS_join h]; simp
    · rw [addS_far h]; simp

/-- Stretches up to a position. -/
structure Upto (frm at_ : Int) (S : Int → Bool) (out : List (Int × Int)) : Prop where
  can : Canon frm out
  lt : ∀ s ∈ out, s.2 < at_
  has : ∀ x, Has out x ↔ (frm ≤ x ∧ x < at_) ∧ S x = true
theorem Upto.nil (frm : Int) (S : Int → Bool) : Upto frm frm S [] :=
  ⟨trivial, (fun s h => absurd h (by simp)), (fun x => by simp only [has_nil, false_iff]; omega)⟩
theorem Upto.skip {frm at_ next : Int} {S : Int → Bool} {out : List (Int × Int)} (h : Upto frm at_ S out) (hn : at_ < next) (hS : ∀ x, at_ ≤ x → x < next → S x = false) : Upto frm next S out := by
  refine ⟨h.can, fun s hs => by have := h.lt s hs; omega, fun x => ?_⟩
  rw [h.has]
  constructor
  · rintro ⟨a, b⟩; exact ⟨by omega, b⟩
  · rintro ⟨a, b⟩
    refine ⟨⟨a.1, ?_⟩, b⟩
    by_cases hx : x < at_
    · exact hx
    · rw [hS x (by omega) a.2] at b; cases b
theorem Upto.add {frm at_ next : Int} {S : Int → Bool} {out : List (Int × Int)} (h : Upto frm at_ S out) (hf : frm ≤ at_) (hn : at_ < next) (hS : ∀ x, at_ ≤ x → x < next → S x = true) : Upto frm next S (addS out at_ next) := by
  have key : ∀ x, ((frm ≤ x ∧ x < next) ∧ S x = true) ↔ Has out x ∨ (at_ ≤ x ∧ x ≤ next - 1) := by
    intro x
    rw [h.has]
    constructor
    · rintro ⟨a, b⟩
      by_cases hx : x < at_
      · exact .inl ⟨⟨a.1, hx⟩, b⟩
      · exact .inr ⟨by omega, by omega⟩
    · rintro (⟨a, b⟩ | a)
      · exact ⟨by omega, b⟩
      · exact ⟨by omega, hS x a.1 (by omega)⟩
  rcases List.eq_nil_or_concat out with rfl | ⟨l, s, rfl⟩
  · rw [addS_nil]
    refine ⟨⟨hf, (by simp only; omega), trivial⟩, (by simp only [List.mem_singleton]; rintro s rfl; simp only; omega), fun x => ?_⟩
    rw [key, has_cons]; simp [has_nil]
  · simp only [List.concat_eq_append] at h key ⊢
    obtain ⟨c1, c2, c3, c4⟩ := (canon_snoc _ _ _).1 h.can
    have hl := h.lt s (by simp)
    by_cases hj : s.2 = at_ - 1
    · rw [addS_join hj]
      refine ⟨(canon_snoc _ _ _).2 ⟨c1, c2, c3, by simp only; omega⟩, ?_, fun x => ?_⟩
      · intro u hu
        rcases List.mem_append.1 hu with hu | hu
        · have := h.lt u (by simp [hu]); omega
        · simp at hu; subst hu; simp only; omega
      · rw [key, has_append, has_append, has_cons, has_cons]
        simp only [has_nil, or_false]
        constructor
        · rintro (h | h)
          · exact .inl (.inl h)
          · by_cases hx : x ≤ s.2
            · exact .inl (.inr ⟨h.1, hx⟩)
            · exact .inr ⟨by omega, by omega⟩
        · rintro ((h | h) | h)
          · exact .inl h
          · exact .inr ⟨h.1, by omega⟩
          · exact .inr ⟨by omega, by omega⟩
    · rw [addS_far hj]
      refine ⟨(canon_snoc _ _ _).2 ⟨h.can, ?_, hf, by simp only; omega⟩, ?_, fun x => ?_⟩
      · intro u hu
        rcases List.mem_append.1 hu with hu | hu
        · have := c2 u hu; simp only; omega
        · simp at hu; subst hu; simp only; omega
      · intro u hu
        rcases List.mem_append.1 hu with hu | hu
        · have := h.lt u hu; omega
        · simp at hu; subst hu; simp only; omega
      · rw [key, has_append, has_cons]; simp [has_nil]

/-- What is surely scanned, told by readings in any order. -/
theorem upto_scan {frm to slip reach : Int} {zs ps : List Int} {out : List (Int × Int)} (hs : ps.Pairwise (· ≤ ·)) (hp : ∀ p, p ∈ ps ↔ p ∈ zs)
    (h : Upto frm (to + 1) (fun x => Sc slip reach zs x) out) : out = join frm to slip reach ps := by
  have hj := join_spec frm to slip reach ps hs
  refine canon_eq _ _ _ _ h.can hj.1 fun x => ?_
  rw [h.has, hj.2, sc_iff]
  constructor
  · rintro ⟨a, p, b, c⟩; exact ⟨by omega, p, (hp p).2 b, c⟩
  · rintro ⟨a, p, b, c⟩; exact ⟨by omega, p, (hp p).1 b, c⟩
theorem upto_anew {frm to slip reach : Int} {zs ps : List Int} {out : List (Int × Int)} (hft : frm ≤ to) (hs : ps.Pairwise (· ≤ ·)) (hp : ∀ p, p ∈ ps ↔ p ∈ zs)
    (h : Upto frm (to + 1) (fun x => !Sc slip reach zs x) out) : out = anew frm to (join frm to slip reach ps) := by
  have hj := join_spec frm to slip reach ps hs
  have ha := anew_spec hj.1 (fun x hx => (((hj.2 x).1 hx).1).2) (show frm ≤ to + 1 by omega)
  refine canon_eq _ _ _ _ h.can ha.1 fun x => ?_
  rw [h.has, ha.2, hj.2]
  have hb : (!Sc slip reach zs x) = true ↔ ¬ ∃ p ∈ zs, p + slip - reach ≤ x ∧ x ≤ p - slip + reach := by
    rw [← sc_iff]; simp
  rw [hb]
  constructor
  · rintro ⟨a, b⟩
    refine ⟨by omega, ?_⟩
    rintro ⟨_, p, hp', h1⟩
    exact b ⟨p, (hp p).1 hp', h1⟩
  · rintro ⟨a, b⟩
    refine ⟨by omega, ?_⟩
    rintro ⟨p, hp', h1⟩
    exact b ⟨a, p, (hp p).2 hp', h1⟩
end CtPlain
