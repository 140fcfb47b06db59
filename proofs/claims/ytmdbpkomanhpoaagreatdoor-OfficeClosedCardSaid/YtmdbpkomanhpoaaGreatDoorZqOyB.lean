/- Closed means done: the plain law. What a log comes to does not hang on where the needs of steps lie. -/
import Derived.Test.YtmdbpkomanhpoaaGreatDoorZqOeO
namespace Go.Proofs.YtmdbpkomanhpoaaGreatDoor
open Go.RowKit Go.Lib

/-- What is so of a closed inspection. -/
def DoneS (s : Se) (st : In) : Prop := anewR s.tk (readsL st.sc) = [] ∧ st.ms.any openB = false ∧ verdV st = 2
theorem enter_closed {s : Se} {st : In} (bb t : ByteArray) (h : st.cl = true) : enterE s st bb t ≠ 0 := by
  unfold enterE
  split
  · decide
  split
  · decide
  split
  · decide
  · unfold enterK
    split
    · decide
    · first | (rw [if_pos h]; decide) | decide
theorem hind_rej {l : List Mk} (h : l.any hindB = false) : l.any rejB = false := by
  rw [List.any_eq_false] at h ⊢
  intro x hx hr
  refine h x hx ?_
  unfold rejB at hr
  unfold hindB
  simp only [Bool.and_eq_true, decide_eq_true_eq] at hr
  rw [hr.1, hr.2]
  decide
theorem close_done {s : Se} {st : In} (h : closeE s st = 0) : DoneS s (closeS st) := by
  unfold closeE at h
  split at h
  · cases h
  split at h
  · cases h
  split at h
  · cases h
  rename_i h1 h2 h3
  have h4 : st.ms.any hindB = false := by simpa using h3
  refine ⟨List.eq_nil_of_length_eq_zero (by show (anewR s.tk (readsL st.sc)).length = 0; omega), by show st.ms.any openB = false; simpa using h2, ?_⟩
  unfold verdV
  rw [show (closeS st).ms = st.ms from rfl, hind_rej h4]
  rfl
theorem enter_cl {s : Se} {st : In} {bb t : ByteArray} (h0 : enterE s st bb t = 0) (hc : st.cl = false) (h1 : (enterS s st bb t).cl = true) : DoneS s (enterS s st bb t) := by
  unfold enterE at h0
  unfold enterS at h1 ⊢
  split at h0
  · cases h0
  split at h0
  · cases h0
  cases hk : kindI (hdW t) with
  | none => rw [hk] at h1; simp only at h1; rw [hc] at h1; cases h1
  | some k =>
    rw [hk] at h0 h1
    simp only at h0 h1 ⊢
    have hk6 := kindI_le hk
    unfold enterK at h0
    split at h0
    · cases h0
    split at h0
    · cases h0
    split at h0
    · cases h0
    split at h0
    · cases h0
    generalize (cutB 32 t).tail = ws at *
    clear hk
    obtain rfl | rfl | rfl | rfl | rfl | rfl | rfl : k = 0 ∨ k = 1 ∨ k = 2 ∨ k = 3 ∨ k = 4 ∨ k = 5 ∨ k = 6 := by omega
    · exact absurd (hc.symm.trans h1) (by decide)
    · exact absurd (hc.symm.trans h1) (by decide)
    · exact absurd (hc.symm.trans h1) (by decide)
    · unfold doS at h1
      simp only at h1
      split at h1 <;> exact absurd (hc.symm.trans h1) (by decide)
    · unfold doS at h1
      simp only at h1
      split at h1
      · unfold deciS at h1
        split at h1
        · exact absurd (hc.symm.trans h1) (by decide)
        · split at h1 <;> exact absurd (hc.symm.trans h1) (by decide)
      · exact absurd (hc.symm.trans h1) (by decide)
    · unfold doS at h1
      simp only at h1
      split at h1
      · unfold mendS at h1
        split at h1
        · exact absurd (hc.symm.trans h1) (by decide)
        · split at h1 <;> exact absurd (hc.symm.trans h1) (by decide)
      · exact absurd (hc.symm.trans h1) (by decide)
    · exact close_done h0
theorem run_done {s : Se} : ∀ (log : List (ByteArray × ByteArray)) (st : In) (k : Nat), st.cl = false → (runL s st log k).2.2 = 0 → (runL s st log k).1.cl = true → DoneS s (runL s st log k).1
  | [], st, k, hc, _, h1 => by
    unfold runL at h1
    rw [hc] at h1
    cases h1
  | x :: l, st, k, hc, h0, h1 => by
    unfold runL at h0 h1 ⊢
    by_cases he : enterE s st x.1 x.2 = 0
    · rw [if_pos he] at h0 h1 ⊢
      cases hcl : (enterS s st x.1 x.2).cl
      · exact run_done l _ (k + 1) hcl h0 h1
      · have hd := enter_cl he hc hcl
        cases l with
        | nil => exact hd
        | cons y l' =>
          unfold runL at h0
          rw [if_neg (enter_closed y.1 y.2 hcl)] at h0
          exact absurd h0 (enter_closed y.1 y.2 hcl)
    · rw [if_neg he] at h0
      exact absurd h0 he
/-- A closed inspection is done. -/
theorem repl_done {s : Se} {log : List (ByteArray × ByteArray)} (h0 : (replV s log).2.2 = 0) (h1 : (replV s log).1.cl = true) : DoneS s (replV s log).1 := by
  unfold replV at h0 h1 ⊢
  split at h0
  · rename_i h; exact absurd h0 h
  split at h0
  · cases h0
  rename_i h2 h3
  rw [if_neg h2, if_neg h3] at h1 ⊢
  exact run_done log in0 0 rfl h0 h1
end Go.Proofs.YtmdbpkomanhpoaaGreatDoor

namespace Go.Proofs.YtmdbpkomanhpoaaGreatDoor
open Go.RowKit Go.Lib

def St.core (p : St) : St := ⟨p.nm, p.lasts, p.warm, none, 0, p.needs⟩
theorem core_get (l : List St) (i : Nat) : (l.map St.core)[i]? = (l[i]?).map St.core := List.getElem?_map ..
theorem addL_core (l : List St) (x : Ev) (L : List La) : addL (l.map St.core) x L = addL l x L := by
  unfold addL
  congr 1
  funext i a
  rw [core_get]
  cases l[i]? <;> rfl
theorem untilF_core (l : List St) (L : List La) : ∀ f i, untilF (l.map St.core) L f i = untilF l L f i
  | 0, _ => rfl
  | f + 1, i => by
    have h : (fun (acc : Int × Bool) (n : Int) => unF (untilF (l.map St.core) L f n.toNat) acc) = fun acc n => unF (untilF l L f n.toNat) acc := by
      funext acc n
      rw [untilF_core l L f]
    simp only [untilF, core_get]
    cases l[i]? with
    | none => rfl
    | some s =>
      cases L[i]? with
      | none => rfl
      | some a => simp only [Option.map_some]; rw [h]; rfl
theorem validV_core (l : List St) (L : List La) (i : Nat) (m : Int) : validV (l.map St.core) L i m = validV l L i m := by
  unfold validV; rw [untilF_core]
theorem bookL_core (l : List St) (evs : List Ev) : bookL (l.map St.core) evs = bookL l evs := by
  unfold bookL
  rw [List.length_map]
  have h : (fun (L : List La) (x : Ev) => addL (l.map St.core) x L) = fun L x => addL l x L := by
    funext L x
    exact addL_core l x L
  rw [h]
theorem evE_core (l : List St) (L : List La) (p : Option Int) (x : Ev) : evE (l.map St.core) L p x = evE l L p x := by
  unfold evE
  rw [List.length_map, core_get]
  cases l[x.st.toNat]? with
  | none => rfl
  | some s =>
    simp only [Option.map_some]
    have h : (fun n : Int => validV (l.map St.core) (addL (l.map St.core) ⟨x.mi, -1, x.wa⟩ L) n.toNat x.mi) = fun n => validV l (addL l ⟨x.mi, -1, x.wa⟩ L) n.toNat x.mi := by
      funext n
      rw [validV_core, addL_core]
    rw [h]
    rfl
theorem evsQ_core (l : List St) (evs : List Ev) : evsQ (l.map St.core) evs = evsQ l evs := by
  funext k
  unfold evsQ
  cases evs[k]? with
  | none => rfl
  | some x => simp only; rw [evE_core, bookL_core]
theorem alike_core (l : List St) : Alike l (l.map St.core) := ⟨by simp, fun k h h' => by simp [St.core]⟩
theorem alike_core_eq {l q : List St} (h : Alike l q) : q.map St.core = l.map St.core := by
  apply List.ext_getElem (by simp [h.1])
  intro k h1 h2
  simp only [List.length_map] at h1 h2
  obtain ⟨a, b, c, d⟩ := h.2 k h2 h1
  simp [St.core, a, b, c, d]
theorem followE_core (l : List St) (evs : List Ev) : followE (l.map St.core) evs = followE l evs := by
  unfold followE
  rw [stepsE_alike (alike_core l), evsQ_core]
theorem atE_core (l : List St) (evs : List Ev) (m : Int) : atE (l.map St.core) evs m = atE l evs m := by
  unfold atE; rw [followE_core]
theorem validL_core (l : List St) (evs : List Ev) (m : Int) : validL (l.map St.core) evs m = validL l evs m := by
  unfold validL
  rw [List.length_map, bookL_core]
  exact List.map_congr_left fun i _ => validV_core l _ i m
def Se.core (s : Se) : Se := { s with st := s.st.map St.core }
theorem tuneE_core (s : Se) (st : In) (ws : List ByteArray) : tuneE s.core st ws = tuneE s st ws := by
  unfold tuneE
  rw [show s.core.st = s.st.map St.core from rfl, followE_core]
theorem scanE_core (s : Se) (st : In) (ws : List ByteArray) : scanE s.core st ws = scanE s st ws := by
  unfold scanE
  rw [show s.core.st = s.st.map St.core from rfl, atE_core, validL_core]
theorem doE_core (k : Nat) (s : Se) (st : In) (bb : ByteArray) (ws : List ByteArray) : doE k s.core st bb ws = doE k s st bb ws := by
  unfold doE
  split
  · exact tuneE_core s st ws
  · exact scanE_core s st ws
  all_goals rfl
theorem doS_core (k : Nat) (s : Se) (st : In) (bb : ByteArray) (ws : List ByteArray) : doS k s.core st bb ws = doS k s st bb ws := by
  unfold doS
  split <;> rfl
theorem enterE_core (s : Se) (st : In) (bb t : ByteArray) : enterE s.core st bb t = enterE s st bb t := by
  unfold enterE enterK
  rw [show whoV s.core bb = whoV s bb from rfl, show roleV s.core bb = roleV s bb from rfl]
  simp only [doE_core]
theorem enterS_core (s : Se) (st : In) (bb t : ByteArray) : enterS s.core st bb t = enterS s st bb t := by
  unfold enterS
  simp only [doS_core]
theorem runL_core (s : Se) : ∀ (log : List (ByteArray × ByteArray)) (st : In) (k : Nat), runL s.core st log k = runL s st log k
  | [], _, _ => rfl
  | x :: l, st, k => by
    unfold runL
    rw [enterE_core, enterS_core, runL_core s l]
theorem setupE_core (s : Se) : setupE' s.core = setupE' s := by
  unfold setupE'
  rw [show s.core.st = s.st.map St.core from rfl, stepsE_alike (alike_core s.st)]
  rfl
theorem replV_core (s : Se) (log : List (ByteArray × ByteArray)) : replV s.core log = replV s log := by
  unfold replV
  rw [setupE_core, runL_core]
/-- A copy comes to the same. -/
theorem replV_alike {s : Se} {q : List St} (h : Alike s.st q) (log : List (ByteArray × ByteArray)) : replV ⟨s.pe, s.cd, s.thick, q, s.tk, s.gf, s.gt, s.lv⟩ log = replV s log := by
  rw [← replV_core s, ← replV_core ⟨s.pe, s.cd, s.thick, q, s.tk, s.gf, s.gt, s.lv⟩]
  unfold Se.core
  dsimp only
  rw [alike_core_eq h]
end Go.Proofs.YtmdbpkomanhpoaaGreatDoor
