/- Plain law of FlawCompares: the search for partners, and a cover with as many members as there are pairs. Contract: the reference's search for a partner. -/
import Derived.Test.YtidgeagpgllkeaaGreatZdFlA
import Derived.Test.YtidgeagpgllkeaaGreatZdFpN
namespace Go.Proofs.YtidgeagpgllkeaaGreat
def updK (f : Nat → Int) (k : Nat) (v : Int) : Nat → Int := fun x => if x = k then v else f x
theorem updK_at {f : Nat → Int} {k : Nat} {v : Int} : updK f k v k = v := by simp [updK]
theorem updK_ne {f : Nat → Int} {k x : Nat} {v : Int} (h : x ≠ k) : updK f k v x = f x := by simp [updK, h]
abbrev Pth := List (Nat × Nat)
/-- The search over the marks k.. of the second list for a partner of i. -/
def augL (rec : Nat → List Nat → Option Pth × List Nat) (R : Int → Int → Bool) (of : Nat → Int) (i : Nat) : List Nat → List Nat → Option Pth × List Nat
  | [], s => (none, s)
  | k :: ks, s =>
    if R i k = true ∧ k ∉ s then
      if of k < 0 then (some [(i, k)], k :: s)
      else match rec (of k).toNat (k :: s) with
        | (some p, s') => (some ((i, k) :: p), s')
        | (none, s') => augL rec R of i ks s'
    else augL rec R of i ks s
/-- The search for a partner of i, with so much fuel. -/
def aug (R : Int → Int → Bool) (m : Nat) (of : Nat → Int) : Nat → Nat → List Nat → Option Pth × List Nat
  | 0, _, s => (none, s)
  | f + 1, i, s => augL (aug R m of f) R of i (List.range m) s
def setOf (p : Pth) (of : Nat → Int) : Nat → Int := p.foldr (fun e f => updK f e.2 e.1) of
def setTo (p : Pth) (tt : Nat → Int) : Nat → Int := p.foldr (fun e f => updK f e.1 e.2) tt
/-- A path on which partners can be changed. -/
inductive AP (R : Int → Int → Bool) (m : Nat) (of : Nat → Int) : Nat → Pth → Prop
  | one {i k : Nat} : k < m → R i k = true → of k < 0 → AP R m of i [(i, k)]
  | cons {i k j : Nat} {p : Pth} : k < m → R i k = true → of k = (j : Int) → AP R m of j p → AP R m of i ((i, k) :: p)
def ksP (p : Pth) : List Nat := p.map (·.2)
theorem augL_some {R : Int → Int → Bool} {m : Nat} {of : Nat → Int} {rec : Nat → List Nat → Option Pth × List Nat} (hr : ∀ j s p s', rec j s = (some p, s') → AP R m of j p ∧ (ksP p).Nodup ∧ ∀ k ∈ ksP p, k ∉ s) (hm : ∀ j s s', rec j s = (none, s') → ∀ x ∈ s, x ∈ s') {i : Nat} :
    ∀ (ks s : List Nat), (∀ k ∈ ks, k < m) → ∀ p s', augL rec R of i ks s = (some p, s') → AP R m of i p ∧ (ksP p).Nodup ∧ ∀ k ∈ ksP p, k ∉ s
  | [], s, _, p, s', h => by simp [augL] at h
  | k :: ks, s, hk, p, s', h => by
    have hkm := hk k (by simp)
    have hks : ∀ x ∈ ks, x < m := fun x hx => hk x (List.mem_cons_of_mem _ hx)
    unfold augL at h
    split at h
    · rename_i hc
      split at h
      · rename_i ho
        simp only [Prod.mk.injEq, Option.some.injEq] at h
        obtain ⟨rfl, _⟩ := h
        exact ⟨.one hkm hc.1 ho, by simp [ksP], by simpa [ksP] using hc.2⟩
      · rename_i ho
        split at h
        · rename_i p1 s1 e
          simp only [Prod.mk.injEq, Option.some.injEq] at h
          obtain ⟨rfl, _⟩ := h
          obtain ⟨a, b, c⟩ := hr _ _ _ _ e
          refine ⟨.cons hkm hc.1 (by omega) a, ?_, ?_⟩
          · show (k :: ksP p1).Nodup
            exact List.nodup_cons.2 ⟨fun hx => c k hx (by simp), b⟩
          · intro x hx
            rcases List.mem_cons.1 (show x ∈ k :: ksP p1 from hx) with rfl | hx
            · exact hc.2
            · exact fun hxs => c x hx (List.mem_cons_of_mem _ hxs)
        · rename_i s1 e
          obtain ⟨a, b, c⟩ := augL_some hr hm ks s1 hks p s' h
          exact ⟨a, b, fun x hx hxs => c x hx (hm _ _ _ e x (List.mem_cons_of_mem _ hxs))⟩
    · exact augL_some hr hm ks s hks p s' h
theorem augL_mono {R : Int → Int → Bool} {of : Nat → Int} {rec : Nat → List Nat → Option Pth × List Nat} (hm : ∀ j s, ∀ x ∈ s, x ∈ (rec j s).2) {i : Nat} :
    ∀ (ks s : List Nat), ∀ x ∈ s, x ∈ (augL rec R of i ks s).2
  | [], s, x, hx => hx
  | k :: ks, s, x, hx => by
    unfold augL
    split
    · split
      · exact List.mem_cons_of_mem _ hx
      · have h1 := hm (of k).toNat (k :: s) x (List.mem_cons_of_mem _ hx)
        split
        · rename_i p1 s1 e; rw [e] at h1; exact h1
        · rename_i s1 e; rw [e] at h1; exact augL_mono hm ks s1 x h1
    · exact augL_mono hm ks s x hx
theorem aug_mono {R : Int → Int → Bool} {m : Nat} {of : Nat → Int} : ∀ (f i : Nat) (s : List Nat), ∀ x ∈ s, x ∈ (aug R m of f i s).2
  | 0, _, _, _, hx => hx
  | f + 1, _, s, x, hx => augL_mono (fun j t => aug_mono f j t) (List.range m) s x hx
theorem aug_some {R : Int → Int → Bool} {m : Nat} {of : Nat → Int} : ∀ (f i : Nat) (s : List Nat) (p : Pth) (s' : List Nat), aug R m of f i s = (some p, s') → AP R m of i p ∧ (ksP p).Nodup ∧ ∀ k ∈ ksP p, k ∉ s
  | 0, _, _, _, _, h => by simp [aug] at h
  | f + 1, i, s, p, s', h => augL_some (fun j t q t' e => aug_some f j t q t' e) (fun j t t' e x hx => by have := aug_mono (R := R) (m := m) (of := of) f j t x hx; rw [e] at this; exact this) (List.range m) s (fun k hk => List.mem_range.1 hk) p s' h
/-- How many have not been tried. -/
def rest (m : Nat) (s : List Nat) : Nat := (List.range m).countP (fun k => decide (k ∉ s))
theorem countP_less {p q : Nat → Bool} {k : Nat} : ∀ {L : List Nat}, k ∈ L → p k = true → q k = false → (∀ x, q x = true → p x = true) → L.countP q + 1 ≤ L.countP p
  | [], h, _, _, _ => by simp at h
  | a :: L, h, hp, hq, hi => by
    rcases List.mem_cons.1 h with e | h
    · subst e
      rw [List.countP_cons, List.countP_cons, hp, hq]
      have := List.countP_mono_left (l := L) (p := q) (q := p) (fun x _ hx => hi x hx)
      simp; exact this
    · have := countP_less h hp hq hi
      rw [List.countP_cons, List.countP_cons]
      by_cases e : q a = true
      · rw [e, hi a e]; simp; omega
      · simp [e]; omega
theorem rest_mono {m : Nat} {s t : List Nat} (h : ∀ x ∈ s, x ∈ t) : rest m t ≤ rest m s := List.countP_mono_left fun x _ hx => by simp at hx ⊢; exact fun h' => hx (h x h')
theorem rest_cons {m k : Nat} {s : List Nat} (hk : k < m) (hs : k ∉ s) : rest m (k :: s) + 1 ≤ rest m s :=
  countP_less (k := k) (List.mem_range.2 hk) (by simpa using hs) (by simp) (fun x hx => by simp at hx ⊢; exact hx.2)
theorem rest_nil (m : Nat) : rest m [] = m := by unfold rest; simp
/-- What a search that failed has tried is closed. -/
def ShutK (R : Int → Int → Bool) (m : Nat) (of : Nat → Int) (s s' : List Nat) : Prop := ∀ k ∈ s', k ∈ s ∨ (k < m ∧ 0 ≤ of k ∧ ∀ x : Nat, x < m → R (of k) x = true → x ∈ s')
theorem augL_none {R : Int → Int → Bool} {m : Nat} {of : Nat → Int} {rec : Nat → List Nat → Option Pth × List Nat} {f : Nat} (hm : ∀ j s, ∀ x ∈ s, x ∈ (rec j s).2)
    (hr : ∀ j s s', rec j s = (none, s') → rest m s < f → ShutK R m of s s' ∧ ∀ x : Nat, x < m → R j x = true → x ∈ s') {i : Nat} :
    ∀ (ks s : List Nat), (∀ k ∈ ks, k < m) → rest m s < f + 1 → ∀ s', augL rec R of i ks s = (none, s') → ShutK R m of s s' ∧ ∀ x ∈ ks, R i x = true → x ∈ s'
  | [], s, _, _, s', h => by
    simp [augL] at h; subst h
    exact ⟨fun k hk => .inl hk, fun x hx => by cases hx⟩
  | k :: ks, s, hk, hf, s', h => by
    have hkm := hk k (by simp)
    have hks : ∀ x ∈ ks, x < m := fun x hx => hk x (List.mem_cons_of_mem _ hx)
    have hmo : ∀ t, ∀ x ∈ t, x ∈ (augL rec R of i ks t).2 := augL_mono hm ks
    unfold augL at h
    split at h
    · rename_i hc
      split at h
      · simp at h
      · rename_i ho
        split at h
        · simp at h
        · rename_i s1 e
          have hr1 := rest_cons hkm hc.2
          obtain ⟨a, b⟩ := hr _ _ _ e (by omega)
          have hs1 : ∀ x ∈ k :: s, x ∈ s1 := fun x hx => by have := hm (of k).toNat (k :: s) x hx; rw [e] at this; exact this
          have hle := rest_mono (m := m) hs1
          obtain ⟨c, d⟩ := augL_none hm hr ks s1 hks (by omega) s' h
          have h1 : ∀ x ∈ s1, x ∈ s' := fun x hx => by have := hmo s1 x hx; rw [h] at this; exact this
          refine ⟨fun y hy => ?_, fun x hx hR => ?_⟩
          · rcases c y hy with hy1 | hy1
            · rcases a y hy1 with hy2 | ⟨h3, h4, h5⟩
              · rcases List.mem_cons.1 hy2 with rfl | hy2
                · refine .inr ⟨hkm, by omega, fun x hx hR => h1 x (b x hx ?_)⟩
                  rw [show (((of y).toNat : Nat) : Int) = of y by omega]; exact hR
                · exact .inl hy2
              · exact .inr ⟨h3, h4, fun x hx hR => h1 x (h5 x hx hR)⟩
            · exact .inr hy1
          · rcases List.mem_cons.1 hx with rfl | hx
            · exact h1 _ (hs1 _ (by simp))
            · exact d x hx hR
    · rename_i hc
      obtain ⟨c, d⟩ := augL_none hm hr ks s hks hf s' h
      refine ⟨c, fun x hx hR => ?_⟩
      rcases List.mem_cons.1 hx with rfl | hx
      · have : x ∈ s := by
          by_cases hxs : x ∈ s
          · exact hxs
          · exact absurd ⟨hR, hxs⟩ hc
        have := hmo s x this; rw [h] at this; exact this
      · exact d x hx hR
theorem aug_none {R : Int → Int → Bool} {m : Nat} {of : Nat → Int} : ∀ (f i : Nat) (s s' : List Nat), aug R m of f i s = (none, s') → rest m s < f → ShutK R m of s s' ∧ ∀ x : Nat, x < m → R i x = true → x ∈ s'
  | 0, _, _, _, _, h => by omega
  | f + 1, i, s, s', h, hf => by
    obtain ⟨a, b⟩ := augL_none (f := f) (fun j t => aug_mono f j t) (fun j t t' e hf => aug_none f j t t' e hf) (List.range m) s (fun k hk => List.mem_range.1 hk) hf s' h
    exact ⟨a, fun x hx => b x (List.mem_range.2 hx)⟩
/-- Partners of both sides. -/
structure Mt (R : Int → Int → Bool) (m : Nat) (of tt : Nat → Int) : Prop where
  two : ∀ a b : Nat, tt a = (b : Int) ↔ of b = (a : Int)
  lt : ∀ a b : Nat, of b = (a : Int) → b < m ∧ R a b = true
  neg : ∀ b : Nat, of b < 0 → of b = -1
  neg' : ∀ a : Nat, tt a < 0 → tt a = -1
theorem setTo_other {p : Pth} {tt : Nat → Int} {a : Nat} (h : ∀ e ∈ p, e.1 ≠ a) : setTo p tt a = tt a := by
  induction p with
  | nil => rfl
  | cons e p ih =>
    show updK (setTo p tt) e.1 e.2 a = tt a
    rw [updK_ne (fun x => h e (by simp) x.symm), ih (fun e' h' => h e' (List.mem_cons_of_mem _ h'))]
theorem setOf_other {p : Pth} {of : Nat → Int} {b : Nat} (h : b ∉ ksP p) : setOf p of b = of b := by
  induction p with
  | nil => rfl
  | cons e p ih =>
    have h' : b ≠ e.2 ∧ b ∉ ksP p := by simpa [ksP] using h
    show updK (setOf p of) e.2 e.1 b = of b
    rw [updK_ne h'.1, ih h'.2]
/-- The first ones of a path behind its first one are partners of its seconds. -/
theorem AP.firsts {R : Int → Int → Bool} {m : Nat} {of : Nat → Int} {i : Nat} {p : Pth} (h : AP R m of i p) : ∀ e ∈ p, e.1 = i ∨ ∃ k ∈ ksP p, of k = (e.1 : Int) := by
  induction h with
  | one _ _ _ => intro e he; simp at he; subst he; exact .inl rfl
  | @cons i k j p h1 h2 h3 h4 ih =>
    intro e he
    rcases List.mem_cons.1 he with rfl | he
    · exact .inl rfl
    · rcases ih e he with h | ⟨x, hx, hh⟩
      · exact .inr ⟨k, by simp [ksP], by rw [h3, h]⟩
      · exact .inr ⟨x, List.mem_cons_of_mem _ hx, hh⟩
theorem AP.ne {R : Int → Int → Bool} {m : Nat} {of : Nat → Int} {i : Nat} {p : Pth} (h : AP R m of i p) : p ≠ [] := by cases h <;> simp
/-- Behind a path all are partners of one another again, but for the one that its first had. -/
theorem AP.go {R : Int → Int → Bool} {m : Nat} {of tt : Nat → Int} (hM : Mt R m of tt) {i : Nat} {p : Pth} (h : AP R m of i p) : (ksP p).Nodup → (∀ k ∈ ksP p, tt i ≠ (k : Int)) →
    (∀ a b : Nat, tt i ≠ (b : Int) → (setTo p tt a = (b : Int) ↔ setOf p of b = (a : Int))) ∧ (∀ a b : Nat, tt i = (b : Int) → setTo p tt a ≠ (b : Int)) := by
  induction h with
  | @one i k h1 h2 h3 =>
    intro _ hk
    have hk := hk k (by simp [ksP])
    have hno : ∀ a : Nat, tt a ≠ (k : Int) := fun a e => by have := (hM.two a k).1 e; omega
    refine ⟨fun a b hb => ?_, fun a b hb => ?_⟩
    · show updK tt i k a = (b : Int) ↔ updK of k i b = (a : Int)
      by_cases e : b = k
      · subst e
        rw [updK_at]
        by_cases e2 : a = i
        · subst e2; rw [updK_at]; simp
        · rw [updK_ne e2]
          exact ⟨fun h => absurd h (hno a), fun h => absurd h (by omega)⟩
      · rw [updK_ne e]
        by_cases e2 : a = i
        · subst e2; rw [updK_at, ← hM.two a b]
          exact ⟨fun h => absurd h (by omega), fun h => absurd h hb⟩
        · rw [updK_ne e2]; exact hM.two a b
    · show updK tt i k a ≠ (b : Int)
      by_cases e2 : a = i
      · subst e2; rw [updK_at]; intro e; exact hk (by rw [hb, e])
      · rw [updK_ne e2]; intro e
        have h1 := (hM.two a b).1 e
        have h2 := (hM.two i b).1 hb
        omega
  | @cons i k j p h1 h2 h3 h4 ih =>
    intro hnd hk
    have hnd' : k ∉ ksP p ∧ (ksP p).Nodup := List.nodup_cons.1 (show (k :: ksP p).Nodup from hnd)
    have hjk : tt j = (k : Int) := (hM.two j k).2 h3
    obtain ⟨ia, ib⟩ := ih hnd'.2 (fun x hx e => hnd'.1 (by rw [hjk] at e; have : k = x := by omega
                                                           rw [this]; exact hx))
    have hfirst : ∀ e ∈ p, e.1 ≠ i := fun e he hei => by
      rcases AP.firsts h4 e he with h | ⟨x, hx, hh⟩
      · exact hk k (by simp [ksP]) (by rw [← hei, h]; exact hjk)
      · exact hk x (List.mem_cons_of_mem _ hx) (by rw [← hei]; exact (hM.two e.1 x).2 hh)
    have hti : setTo p tt i = tt i := setTo_other hfirst
    have hok : setOf p of k = of k := setOf_other hnd'.1
    refine ⟨fun a b hb => ?_, fun a b hb => ?_⟩
    · show updK (setTo p tt) i k a = (b : Int) ↔ updK (setOf p of) k i b = (a : Int)
      by_cases e : b = k
      · subst e
        rw [updK_at]
        by_cases e2 : a = i
        · subst e2; rw [updK_at]; simp
        · rw [updK_ne e2]
          exact ⟨fun h => absurd h (ib a b hjk), fun h => absurd h (by omega)⟩
      · rw [updK_ne e]
        have hjb : tt j ≠ (b : Int) := by rw [hjk]; omega
        by_cases e2 : a = i
        · subst e2; rw [updK_at, ← ia a b hjb, hti]
          exact ⟨fun h => absurd h (by omega), fun h => absurd h hb⟩
        · rw [updK_ne e2]; exact ia a b hjb
    · show updK (setTo p tt) i k a ≠ (b : Int)
      by_cases e2 : a = i
      · subst e2; rw [updK_at]; intro e; exact hk k (by simp [ksP]) (by rw [hb, e])
      · rw [updK_ne e2]
        have hbk : b ≠ k := fun e => by subst e; exact hk b (by simp [ksP]) hb
        have hjb : tt j ≠ (b : Int) := by rw [hjk]; omega
        rw [Ne, ia a b hjb]
        intro e
        by_cases hbp : b ∈ ksP p
        · exact hk b (List.mem_cons_of_mem _ hbp) hb
        · rw [setOf_other hbp] at e
          have h2 := (hM.two i b).1 hb
          omega
theorem setOf_mem {p : Pth} {of : Nat → Int} (hn : (ksP p).Nodup) {e : Nat × Nat} (he : e ∈ p) : setOf p of e.2 = (e.1 : Int) := by
  induction p with
  | nil => cases he
  | cons d p ih =>
    have hn' : d.2 ∉ ksP p ∧ (ksP p).Nodup := List.nodup_cons.1 (show (d.2 :: ksP p).Nodup from hn)
    show updK (setOf p of) d.2 d.1 e.2 = (e.1 : Int)
    rcases List.mem_cons.1 he with rfl | he
    · rw [updK_at]
    · rw [updK_ne (fun x => hn'.1 (by rw [← x]; exact List.mem_map_of_mem he)), ih hn'.2 he]
theorem AP.each {R : Int → Int → Bool} {m : Nat} {of : Nat → Int} {i : Nat} {p : Pth} (h : AP R m of i p) : ∀ e ∈ p, e.2 < m ∧ R e.1 e.2 = true := by
  induction h with
  | one h1 h2 _ => intro e he; simp at he; subst he; exact ⟨h1, h2⟩
  | cons h1 h2 h3 h4 ih =>
    intro e he
    rcases List.mem_cons.1 he with rfl | he
    · exact ⟨h1, h2⟩
    · exact ih e he
theorem setTo_neg {p : Pth} {tt : Nat → Int} (h : ∀ a, tt a < 0 → tt a = -1) : ∀ a, setTo p tt a < 0 → setTo p tt a = -1 := by
  induction p with
  | nil => exact h
  | cons e p ih =>
    intro a
    show updK (setTo p tt) e.1 e.2 a < 0 → updK (setTo p tt) e.1 e.2 a = -1
    unfold updK
    split
    · omega
    · exact ih a
theorem setOf_neg {p : Pth} {of : Nat → Int} (h : ∀ a, of a < 0 → of a = -1) : ∀ a, setOf p of a < 0 → setOf p of a = -1 := by
  induction p with
  | nil => exact h
  | cons e p ih =>
    intro a
    show updK (setOf p of) e.2 e.1 a < 0 → updK (setOf p of) e.2 e.1 a = -1
    unfold updK
    split
    · omega
    · exact ih a
/-- A path from a mark without partner gives partners again. -/
theorem Mt.path {R : Int → Int → Bool} {m : Nat} {of tt : Nat → Int} (hM : Mt R m of tt) {i : Nat} {p : Pth} (h : AP R m of i p) (hn : (ksP p).Nodup) (hi : tt i < 0) : Mt R m (setOf p of) (setTo p tt) := by
  obtain ⟨a, _⟩ := h.go hM hn (fun k _ => by omega)
  refine ⟨fun x y => a x y (by omega), fun x y e => ?_, setOf_neg hM.neg, setTo_neg hM.neg'⟩
  by_cases hy : y ∈ ksP p
  · obtain ⟨d, hd, rfl⟩ := List.mem_map.1 hy
    rw [setOf_mem hn hd] at e
    obtain rfl : d.1 = x := by omega
    exact h.each d hd
  · rw [setOf_other hy] at e
    exact hM.lt x y e
/-- A set of the second list that no further search leaves. -/
structure Dead (R : Int → Int → Bool) (m : Nat) (of : Nat → Int) (D : Nat → Prop) : Prop where
  on : ∀ k, D k → k < m ∧ 0 ≤ of k ∧ ∀ x : Nat, x < m → R (of k) x = true → D x
theorem AP.off {R : Int → Int → Bool} {m : Nat} {of : Nat → Int} {D : Nat → Prop} (hD : Dead R m of D) {i : Nat} {p : Pth} (h : AP R m of i p) : ∀ k ∈ ksP p, ¬ D k := by
  induction h with
  | one h1 h2 h3 => intro x hx; simp [ksP] at hx; subst hx; exact fun hd => by have := (hD.on _ hd).2.1; omega
  | @cons i k j p h1 h2 h3 h4 ih =>
    intro x hx
    rcases List.mem_cons.1 (show x ∈ k :: ksP p from hx) with rfl | hx
    · intro hd
      have h5 := (hD.on _ hd).2.2
      rw [h3] at h5
      cases h4 with
      | one a b c => exact ih _ (by simp [ksP]) (h5 _ a b)
      | cons a b c d => exact ih _ (by simp [ksP]) (h5 _ a b)
    · exact ih x hx
theorem Dead.path {R : Int → Int → Bool} {m : Nat} {of : Nat → Int} {D : Nat → Prop} (hD : Dead R m of D) {i : Nat} {p : Pth} (h : AP R m of i p) : Dead R m (setOf p of) D :=
  ⟨fun k hk => by rw [setOf_other (fun hx => h.off hD k hx hk)]; exact hD.on k hk⟩
/-- Partners after the search for each of the first i marks. -/
def kuhn (R : Int → Int → Bool) (m : Nat) : Nat → (Nat → Int) × (Nat → Int) × Nat
  | 0 => (fun _ => -1, fun _ => -1, 0)
  | i + 1 => match (aug R m (kuhn R m i).1 (m + 1) i []).1 with
    | some p => (setOf p (kuhn R m i).1, setTo p (kuhn R m i).2.1, (kuhn R m i).2.2 + 1)
    | none => kuhn R m i
structure KI (R : Int → Int → Bool) (m i : Nat) (of tt : Nat → Int) : Prop where
  mt : Mt R m of tt
  small : ∀ a, 0 ≤ tt a → a < i
  dead : ∃ D, Dead R m of D ∧ ∀ a : Nat, a < i → tt a < 0 → ∀ x : Nat, x < m → R a x = true → D x
theorem setTo_some {p : Pth} {tt : Nat → Int} {a : Nat} : (0 ≤ setTo p tt a) → 0 ≤ tt a ∨ ∃ e ∈ p, e.1 = a := by
  induction p with
  | nil => exact .inl
  | cons e p ih =>
    show 0 ≤ updK (setTo p tt) e.1 e.2 a → _
    unfold updK
    split
    · rename_i h; exact fun _ => .inr ⟨e, by simp, h.symm⟩
    · intro h
      rcases ih h with h | ⟨d, hd, h⟩
      · exact .inl h
      · exact .inr ⟨d, List.mem_cons_of_mem _ hd, h⟩
theorem setTo_keeps {p : Pth} {tt : Nat → Int} {a : Nat} (h : 0 ≤ tt a) : 0 ≤ setTo p tt a := by
  induction p with
  | nil => exact h
  | cons e p ih =>
    show 0 ≤ updK (setTo p tt) e.1 e.2 a
    unfold updK
    split
    · omega
    · exact ih
theorem AP.hd {R : Int → Int → Bool} {m : Nat} {of : Nat → Int} {i : Nat} {p : Pth} (h : AP R m of i p) : ∃ k p', p = (i, k) :: p' := by cases h <;> exact ⟨_, _, rfl⟩
theorem kuhn_ki (R : Int → Int → Bool) (m : Nat) : ∀ i, KI R m i (kuhn R m i).1 (kuhn R m i).2.1
  | 0 => ⟨⟨fun a b => by simp [kuhn], fun a b h => by simp [kuhn] at h, fun _ _ => rfl, fun _ _ => rfl⟩, fun a h => by simp [kuhn] at h, ⟨fun _ => False, ⟨fun _ h => h.elim⟩, fun a h => by omega⟩⟩
  | i + 1 => by
    have K := kuhn_ki R m i
    have hi : (kuhn R m i).2.1 i < 0 := by
      by_cases h : 0 ≤ (kuhn R m i).2.1 i
      · have := K.small _ h; omega
      · omega
    obtain ⟨D, hD, hF⟩ := K.dead
    unfold kuhn
    split
    · rename_i p e
      have e' : aug R m (kuhn R m i).1 (m + 1) i [] = (some p, (aug R m (kuhn R m i).1 (m + 1) i []).2) := by rw [← e]
      obtain ⟨h1, h2, _⟩ := aug_some _ _ _ _ _ e'
      refine ⟨K.mt.path h1 h2 hi, fun a h => ?_, D, hD.path h1, fun a ha hta => ?_⟩
      · rcases setTo_some h with h | ⟨d, hd, rfl⟩
        · have := K.small a h; omega
        · rcases h1.firsts d hd with h | ⟨k, _, h⟩
          · omega
          · have := K.small d.1 (by rw [(K.mt.two d.1 k).2 h]; omega); omega
      · have hta : setTo p (kuhn R m i).2.1 a < 0 := hta
        refine hF a ?_ ?_
        · have : a ≠ i := fun e => by
            subst e
            obtain ⟨k, p', rfl⟩ := h1.hd
            have : setTo ((a, k) :: p') (kuhn R m a).2.1 a = (k : Int) := updK_at
            omega
          omega
        · by_cases h : 0 ≤ (kuhn R m i).2.1 a
          · have := setTo_keeps (p := p) h; omega
          · omega
    · rename_i e
      have e' : aug R m (kuhn R m i).1 (m + 1) i [] = (none, (aug R m (kuhn R m i).1 (m + 1) i []).2) := by rw [← e]
      obtain ⟨h1, h2⟩ := aug_none _ _ _ _ e' (by rw [rest_nil]; omega)
      refine ⟨K.mt, fun a h => by have := K.small a h; omega, fun k => D k ∨ k ∈ (aug R m (kuhn R m i).1 (m + 1) i []).2, ⟨fun k hk => ?_⟩, fun a ha hta x hx hR => ?_⟩
      · rcases hk with hk | hk
        · obtain ⟨a, b, c⟩ := hD.on k hk
          exact ⟨a, b, fun x hx hR => .inl (c x hx hR)⟩
        · rcases h1 k hk with h | ⟨a, b, c⟩
          · cases h
          · exact ⟨a, b, fun x hx hR => .inr (c x hx hR)⟩
      · by_cases e : a = i
        · subst e; exact .inr (h2 x hx hR)
        · exact .inl (hF a (by omega) hta x hx hR)
/-- How many of the first list have a partner. -/
def cntTo (tt : Nat → Int) (n : Nat) : Nat := (List.range n).countP (fun a => decide (0 ≤ tt a))
theorem cntTo_same {f g : Nat → Int} : ∀ {n : Nat}, (∀ a, a < n → (0 ≤ f a ↔ 0 ≤ g a)) → cntTo f n = cntTo g n := fun {n} h => by
  unfold cntTo
  refine List.countP_congr fun a ha => ?_
  simp only [decide_eq_true_eq]
  exact h a (List.mem_range.1 ha)
theorem cntTo_succ (f : Nat → Int) (n : Nat) : cntTo f (n + 1) = cntTo f n + if 0 ≤ f n then 1 else 0 := by
  unfold cntTo
  rw [List.range_succ, List.countP_append, List.countP_cons]
  simp
theorem kuhn_count (R : Int → Int → Bool) (m : Nat) : ∀ i, (kuhn R m i).2.2 = cntTo (kuhn R m i).2.1 i
  | 0 => rfl
  | i + 1 => by
    have K := kuhn_ki R m i
    have ih := kuhn_count R m i
    have hi : (kuhn R m i).2.1 i < 0 := by
      by_cases h : 0 ≤ (kuhn R m i).2.1 i
      · have := K.small _ h; omega
      · omega
    rw [cntTo_succ]
    unfold kuhn
    split
    · rename_i p e
      have e' : aug R m (kuhn R m i).1 (m + 1) i [] = (some p, (aug R m (kuhn R m i).1 (m + 1) i []).2) := by rw [← e]
      obtain ⟨h1, h2, _⟩ := aug_some _ _ _ _ _ e'
      show (kuhn R m i).2.2 + 1 = cntTo (setTo p (kuhn R m i).2.1) i + if 0 ≤ setTo p (kuhn R m i).2.1 i then 1 else 0
      rw [ih]
      obtain ⟨k, p', rfl⟩ := h1.hd
      rw [if_pos (show 0 ≤ setTo ((i, k) :: p') (kuhn R m i).2.1 i from by show 0 ≤ updK (setTo p' (kuhn R m i).2.1) i k i; rw [updK_at]; omega)]
      congr 1
      refine cntTo_same fun a ha => ⟨setTo_keeps, fun h => ?_⟩
      rcases setTo_some h with h | ⟨d, hd, rfl⟩
      · exact h
      · rcases h1.firsts d hd with h | ⟨k, _, h⟩
        · omega
        · rw [(K.mt.two d.1 k).2 h]; omega
    · rename_i e
      rw [ih, if_neg (by omega)]; rfl

/-- What can be reached from marks without partner. -/
structure Rch (R : Int → Int → Bool) (n m : Nat) (of tt : Nat → Int) (x0 x1 : Nat → Bool) : Prop where
  free : ∀ a, a < n → tt a < 0 → x0 a = true
  fwd : ∀ a, a < n → x0 a = true → ∀ x : Nat, x < m → R a x = true → x1 x = true
  back : ∀ k, k < m → x1 k = true → 0 ≤ of k → x0 (of k).toNat = true
  on : ∀ k, k < m → x1 k = true → 0 ≤ of k
def pairsV (n : Nat) (tt : Nat → Int) : List (Int × Int) := ((List.range n).filter (fun a => decide (0 ≤ tt a))).map (fun (a : Nat) => ((a : Int), tt a))
def numsV (n : Nat) (x : Nat → Bool) : List Int := ((List.range n).filter x).map (fun (a : Nat) => (a : Int))
theorem mem_numsV {n : Nat} {x : Nat → Bool} {i : Int} : i ∈ numsV n x ↔ ∃ a : Nat, a < n ∧ x a = true ∧ (a : Int) = i := by
  unfold numsV
  simp only [List.mem_map, List.mem_filter, List.mem_range]
  exact ⟨fun ⟨a, ⟨h1, h2⟩, h3⟩ => ⟨a, h1, h2, h3⟩, fun ⟨a, h1, h2, h3⟩ => ⟨a, ⟨h1, h2⟩, h3⟩⟩
theorem range_asc (n : Nat) : (List.range n).Pairwise fun a b => a < b := List.pairwise_lt_range
theorem numsV_asc (n : Nat) (x : Nat → Bool) : (numsV n x).Pairwise fun a b => a < b := by
  unfold numsV
  rw [List.pairwise_map]
  exact ((range_asc n).filter _).imp fun h => by omega
theorem numsV_e {n : Nat} {x : Nat → Bool} : numbE n (numsV n x) = 0 := by
  refine firstBad_pre fun k hk => ?_
  unfold numbB
  rw [List.getElem?_eq_getElem hk]
  obtain ⟨a, h1, _, h3⟩ := mem_numsV.1 (List.getElem_mem hk)
  show (if wi (numsV n x)[k] 0 ((n : Int) - 1) = false then 6 else _) = (0 : Int)
  rw [if_neg (by simp [wi]; omega), if_neg]
  rintro ⟨h0, hle⟩
  rw [List.getElem?_eq_getElem (show k - 1 < (numsV n x).length by omega)] at hle
  have := List.pairwise_iff_getElem.1 (numsV_asc n x) (k - 1) k (by omega) hk (by omega)
  have hle : (numsV n x)[k] ≤ (numsV n x)[k - 1] := hle
  omega
theorem pairsV_len (n : Nat) (tt : Nat → Int) : (pairsV n tt).length = cntTo tt n := by
  unfold pairsV cntTo
  rw [List.length_map, List.countP_eq_length_filter]
theorem mem_pairsV {n : Nat} {tt : Nat → Int} {p : Int × Int} : p ∈ pairsV n tt ↔ ∃ a : Nat, a < n ∧ 0 ≤ tt a ∧ ((a : Int), tt a) = p := by
  unfold pairsV
  simp only [List.mem_map, List.mem_filter, List.mem_range, decide_eq_true_eq]
  exact ⟨fun ⟨a, ⟨h1, h2⟩, h3⟩ => ⟨a, h1, h2, h3⟩, fun ⟨a, h1, h2, h3⟩ => ⟨a, ⟨h1, h2⟩, h3⟩⟩
theorem pairsV_asc (n : Nat) (tt : Nat → Int) : (pairsV n tt).Pairwise fun p q => p.1 < q.1 := by
  unfold pairsV
  rw [List.pairwise_map]
  exact ((range_asc n).filter _).imp fun h => by simp only; omega
theorem pairsV_ok {R : Int → Int → Bool} {n m : Nat} {of tt : Nat → Int} (h : Mt R m of tt) : PairsOk n m R (pairsV n tt) := by
  refine ⟨fun p hp => ?_, ?_⟩
  · obtain ⟨a, h1, h2, rfl⟩ := mem_pairsV.1 hp
    have e := (h.two a (tt a).toNat).1 (by omega)
    have := h.lt _ _ e
    rw [show (((tt a).toNat : Nat) : Int) = tt a by omega] at this
    exact ⟨⟨by simp only; omega, by simp only; omega⟩, ⟨h2, by simp only; omega⟩, this.2⟩
  · unfold pairsV
    rw [List.pairwise_map]
    refine List.Pairwise.imp_of_mem (R := fun a b => a < b) (fun {a b} ha hb hab => ⟨by simp only [ne_eq]; omega, fun e => ?_⟩) ((range_asc n).filter _)
    simp only [List.mem_filter, List.mem_range, decide_eq_true_eq] at ha hb e
    have h1 := (h.two a (tt a).toNat).1 (by omega)
    have h2 := (h.two b (tt a).toNat).1 (by omega)
    omega
/-- A COVER WITH AS MANY MEMBERS AS THERE ARE PAIRS. -/
theorem koenig {R : Int → Int → Bool} {n m : Nat} {of tt : Nat → Int} {x0 x1 : Nat → Bool} (h : Mt R m of tt) (hr : Rch R n m of tt x0 x1) (hs : ∀ a, 0 ≤ tt a → a < n) :
    CovOk n m R (numsV n (fun a => !x0 a)) (numsV m x1) ∧ (numsV n (fun a => !x0 a)).length + (numsV m x1).length = (pairsV n tt).length := by
  have hc : CovOk n m R (numsV n (fun a => !x0 a)) (numsV m x1) := by
    refine ⟨numsV_e, numsV_e, fun i k hi hin hk hkm hR => ?_⟩
    by_cases hx : x0 i.toNat = true
    · refine .inr (mem_numsV.2 ⟨k.toNat, by omega, hr.fwd i.toNat (by omega) hx k.toNat (by omega) ?_, by omega⟩)
      rw [show ((i.toNat : Nat) : Int) = i by omega, show ((k.toNat : Nat) : Int) = k by omega]; exact hR
    · exact .inl (mem_numsV.2 ⟨i.toNat, by omega, by simpa using hx, by omega⟩)
  refine ⟨hc, Nat.le_antisymm ?_ (weak_dual (pairsV_ok h) hc)⟩
  have nd0 : (numsV n (fun a => !x0 a)).Nodup := (numsV_asc _ _).imp fun h e => by omega
  have nd1 : (numsV m x1).Nodup := (numsV_asc _ _).imp fun h e => by omega
  have key : ∀ d ∈ (numsV n (fun a => !x0 a)).map (fun x => (true, x)) ++ (numsV m x1).map (fun x => (false, x)), (d.1 = true → ∃ a : Nat, a < n ∧ x0 a = false ∧ 0 ≤ tt a ∧ d.2 = (a : Int)) ∧ (d.1 = false → ∃ k a : Nat, k < m ∧ x1 k = true ∧ of k = (a : Int) ∧ tt a = (k : Int) ∧ x0 a = true ∧ a < n ∧ d.2 = (k : Int)) := by
    intro d hd
    rcases List.mem_append.1 hd with hd | hd
    · obtain ⟨x, hx, rfl⟩ := List.mem_map.1 hd
      obtain ⟨a, h1, h2, h3⟩ := mem_numsV.1 hx
      have h2 : x0 a = false := by simpa using h2
      refine ⟨fun _ => ⟨a, h1, h2, ?_, h3.symm⟩, fun e => by cases e⟩
      by_cases e : 0 ≤ tt a
      · exact e
      · have := hr.free a h1 (by omega); rw [h2] at this; cases this
    · obtain ⟨x, hx, rfl⟩ := List.mem_map.1 hd
      obtain ⟨k, h1, h2, h3⟩ := mem_numsV.1 hx
      have h4 := hr.on k h1 h2
      have h5 := (h.two (of k).toNat k).2 (by omega)
      exact ⟨fun e => (by cases e), fun _ => ⟨k, (of k).toNat, h1, h2, by omega, h5, hr.back k h1 h2 h4, hs _ (by omega), h3.symm⟩⟩
  have := nodup_of_pick (fun (d : Bool × Int) (p : Int × Int) => if d.1 then p.1 = d.2 else p.2 = d.2) (A := (numsV n (fun a => !x0 a)).map (fun x => (true, x)) ++ (numsV m x1).map (fun x => (false, x))) (B := pairsV n tt) ?_ (fun d hd => ?_) (fun d hd d' hd' p hp e1 e2 => ?_)
  · simpa using this
  · rw [List.nodup_append]
    refine ⟨?_, ?_, ?_⟩
    · unfold List.Nodup; rw [List.pairwise_map]; exact nd0.imp fun h e => h (Prod.mk.inj e).2
    · unfold List.Nodup; rw [List.pairwise_map]; exact nd1.imp fun h e => h (Prod.mk.inj e).2
    · intro x hx y hy e
      obtain ⟨_, _, rfl⟩ := List.mem_map.1 hx
      obtain ⟨_, _, rfl⟩ := List.mem_map.1 hy
      cases e
  · obtain ⟨h1, h2⟩ := key d hd
    obtain ⟨b, x⟩ := d
    cases b
    · obtain ⟨k, a, h3, h4, h5, h6, h7, h8, h9⟩ := h2 rfl
      exact ⟨((a : Int), tt a), mem_pairsV.2 ⟨a, h8, by omega, rfl⟩, by simp only at h9 ⊢; simp [h6, h9]⟩
    · obtain ⟨a, h3, h4, h5, h6⟩ := h1 rfl
      exact ⟨((a : Int), tt a), mem_pairsV.2 ⟨a, h3, h5, rfl⟩, by simp only at h6 ⊢; simp [h6]⟩
  · obtain ⟨a, ha, hta, rfl⟩ := mem_pairsV.1 hp
    obtain ⟨h1, h2⟩ := key d hd
    obtain ⟨h3, h4⟩ := key d' hd'
    obtain ⟨b, x⟩ := d
    obtain ⟨b', x'⟩ := d'
    cases b <;> cases b'
    · simp at e1 e2; simp; omega
    · obtain ⟨k, c, _, _, u1, u2, u3, _, u4⟩ := h2 rfl
      obtain ⟨c', _, v1, _, v2⟩ := h3 rfl
      simp at e1 e2 u4 v2
      have : a = c := by
        have w1 := (h.two a k).1 (by omega)
        omega
      have : a = c' := by omega
      subst this
      subst c
      rw [u3] at v1; cases v1
    · obtain ⟨k, c, _, _, u1, u2, u3, _, u4⟩ := h4 rfl
      obtain ⟨c', _, v1, _, v2⟩ := h1 rfl
      simp at e1 e2 u4 v2
      have : a = c := by
        have w1 := (h.two a k).1 (by omega)
        omega
      have : a = c' := by omega
      subst this
      subst c
      rw [u3] at v1; cases v1
    · simp at e1 e2; simp; omega
end Go.Proofs.YtidgeagpgllkeaaGreat

namespace Go.Proofs.YtidgeagpgllkeaaGreat
open Go.RowKit

def boolsC (l : List Bool) : List Value := l.map Value.bool
theorem boolsC_set (l : List Bool) (k : Nat) (x : Bool) : boolsC (l.set k x) = (boolsC l).set k (.bool x) := by simp [boolsC, List.map_set]
def ofL (F : List Int) : Nat → Int := fun k => F[k]?.getD (-1)
theorem ofL_set {F : List Int} {k : Nat} {x : Int} (hk : k < F.length) : ofL (F.set k x) = updK (ofL F) k x := by
  funext y
  unfold ofL updK
  rw [List.getElem?_set]
  by_cases e : y = k
  · subst e; simp [hk]
  · rw [if_neg (fun h => e h.symm), if_neg e]
theorem ofL_at {F : List Int} {k : Nat} {x : Int} (h : F[k]? = some x) : ofL F k = x := by unfold ofL; rw [h]; rfl
/-- What has been tried, as a row. -/
structure SeenR (m : Nat) (s : List Nat) (Bs : List Bool) : Prop where
  len : Bs.length = m
  at_ : ∀ (k : Nat) (x : Bool), Bs[k]? = some x → x = decide (k ∈ s)
theorem SeenR.add {m : Nat} {s : List Nat} {Bs : List Bool} (h : SeenR m s Bs) (k : Nat) : SeenR m (k :: s) (Bs.set k true) := by
  refine ⟨by rw [List.length_set]; exact h.len, fun j x hx => ?_⟩
  rw [List.getElem?_set] at hx
  by_cases e : k = j
  · subst e
    rw [if_pos rfl] at hx
    split at hx
    · obtain rfl : true = x := by simpa using hx
      simp
    · cases hx
  · rw [if_neg e] at hx
    rw [h.at_ j x hx]
    have : j ≠ k := fun h => e h.symm
    simp [this]
/-- Partners and what has been tried, in memory. -/
structure PdM (V : World) (pO pS m : Nat) (F : List Int) (Bs : List Bool) (W : World) : Prop where
  o : LbM V pO m F W
  s : W.ownsRow V.heap.size 4 1 (.slice (some ⟨pS, 0, none⟩) m m) m (boolsC Bs)
section
variable {V W W' : World} {pO pS m : Nat} {F : List Int} {Bs : List Bool}
theorem PdM.gr (h : PdM V pO pS m F Bs W) (g : Gr W W') : PdM V pO pS m F Bs W' := ⟨h.o.gr g, own_below h.s g⟩
theorem PdM.blen (h : PdM V pO pS m F Bs W) : Bs.length = m := by have := h.s.1; simp [boolsC] at this; omega
theorem PdM.cell (h : PdM V pO pS m F Bs W) {k : Nat} {x : Bool} (hk : Bs[k]? = some x) : W.cell? ⟨pS, k, none⟩ = some (.bool x) := by
  have := h.s.cells (g := pS) rfl k (.bool x) (by simp [boolsC, hk])
  rwa [Addr.add_lit, Nat.zero_add] at this
theorem PdM.frozen (h : PdM V pO pS m F Bs W) (k : Nat) : W.frozen? ⟨pS, k, none⟩ = false := h.s.frozenAt k
theorem PdM.lt (h : PdM V pO pS m F Bs W) : pS < W.heap.size := (h.s.lt pS rfl).2
theorem PdM.low (h : PdM V pO pS m F Bs W) : V.heap.size ≤ pS := (h.s.lt pS rfl).1
theorem PdM.ne (h : PdM V pO pS m F Bs W) : pO ≠ pS := fun e => by
  rcases own_two' h.o.own h.s (by decide) with h1 | h1
  · simp [Value.ownBlock] at h1
  · exact h1 (by simp [Value.ownBlock, e])
theorem PdM.putO (h : PdM V pO pS m F Bs W) (k : Nat) (x : Int) : PdM V pO pS m (F.set k x) Bs (W.setCell ⟨pO, k, none⟩ (.int .i64 x)) :=
  ⟨h.o.put k x, ownsRow_setCell_other h.s (by simp [Value.ownBlock]; exact fun e => h.ne e.symm) _⟩
theorem PdM.putS (h : PdM V pO pS m F Bs W) (k : Nat) (x : Bool) : PdM V pO pS m F (Bs.set k x) (W.setCell ⟨pS, k, none⟩ (.bool x)) := by
  obtain ⟨r1, _⟩ := h.s.stored k (.bool x)
  exact ⟨h.o.far h.ne h.low, by rw [boolsC_set]; exact r1⟩
end
theorem augL_skip {rec : Nat → List Nat → Option Pth × List Nat} {R : Int → Int → Bool} {of : Nat → Int} {i k : Nat} {ks s : List Nat} (h : ¬ (R i k = true ∧ k ∉ s)) : augL rec R of i (k :: ks) s = augL rec R of i ks s := by
  conv => lhs; unfold augL
  rw [if_neg h]
theorem augL_free {rec : Nat → List Nat → Option Pth × List Nat} {R : Int → Int → Bool} {of : Nat → Int} {i k : Nat} {ks s : List Nat} (h : R i k = true ∧ k ∉ s) (ho : of k < 0) : augL rec R of i (k :: ks) s = (some [(i, k)], k :: s) := by
  conv => lhs; unfold augL
  rw [if_pos h, if_pos ho]
theorem augL_rec {rec : Nat → List Nat → Option Pth × List Nat} {R : Int → Int → Bool} {of : Nat → Int} {i k : Nat} {ks s : List Nat} (h : R i k = true ∧ k ∉ s) (ho : ¬ of k < 0) : augL rec R of i (k :: ks) s = match rec (of k).toNat (k :: s) with
    | (some p, s') => (some ((i, k) :: p), s')
    | (none, s') => augL rec R of i ks s' := by
  conv => lhs; unfold augL
  rw [if_pos h, if_neg ho]
  all_goals rfl
theorem range'_cons {k m : Nat} (h : k < m) : List.range' k (m - k) = k :: List.range' (k + 1) (m - (k + 1)) := by
  rw [show m - k = (m - (k + 1)) + 1 by omega, List.range'_succ]
/-- What a search answers. -/
def AugP (R : Int → Int → Bool) (m n : Nat) (F : List Int) (r : Option Pth × List Nat) (F' : List Int) (Bs' : List Bool) : Prop :=
  (∀ (k : Nat) (x : Int), F'[k]? = some x → x < (n : Int)) ∧ (match r with
    | (some p, _) => ofL F' = setOf p (ofL F)
    | (none, s') => F' = F ∧ SeenR m s' Bs')

set_option maxRecDepth 100000 in
set_option maxHeartbeats 8000000 in
theorem paired_any (V : World) (pO pS : Nat) (l0 l1 : List Mk) (A0 A1 : Option Addr) (c0 c1 B : Nat) (slack : Int) (h0 : Row V B 6 A0 l0.length (mksC l0)) (h1 : Row V B 6 A1 l1.length (mksC l1)) (hB : B ≤ V.heap.size) (HS0 : Hid (∀ m ∈ l0, MkS m)) (HS1 : Hid (∀ m ∈ l1, MkS m)) (hn0 : l0.length ≤ 1000) (hn1 : l1.length ≤ 1000) :
    ∀ (f i : Nat) (s : List Nat) (F : List Int) (Bs : List Bool) (w : World), i < l0.length → rest l1.length s < f → SeenR l1.length s Bs → (∀ (k : Nat) (x : Int), F[k]? = some x → x < (l0.length : Int)) → PdM V pO pS l1.length F Bs w →
    Calls Tryz.prog 163 #[.slice A0 l0.length c0, .slice A1 l1.length c1, .int .i64 slack, .int .i64 i, .slice (some ⟨pO, 0, none⟩) l1.length l1.length, .slice (some ⟨pS, 0, none⟩) l1.length l1.length] w fun e w' => e = .returned (.bool ((aug (relV l0 l1 slack) l1.length (ofL F) f i s).1.isSome)) ∧ ∃ F' Bs', PdM V pO pS l1.length F' Bs' w' ∧ AugP (relV l0 l1 slack) l1.length l0.length F (aug (relV l0 l1 slack) l1.length (ofL F) f i s) F' Bs' := by
  intro f
  induction f with
  | zero => intro i s F Bs w _ h; omega
  | succ f ih =>
    intro i s0 F Bs0 w hi hrest hs0 hF M0
    have IH := Lib.hid ih
    clear ih
    obtain ⟨X, hX⟩ : ∃ X, aug (relV l0 l1 slack) l1.length (ofL F) (f + 1) i s0 = X := ⟨_, rfl⟩
    have HX : Hid (augL (aug (relV l0 l1 slack) l1.length (ofL F) f) (relV l0 l1 slack) (ofL F) i (List.range' 0 (l1.length - 0)) s0 = X) := Lib.hid (by rw [← hX, Nat.sub_zero, ← List.range_eq_range']; rfl)
    rw [hX]
    clear hX
    have HF := Lib.hid hF
    clear hF
    go_enter Tryz.func163, Tryz.ntmps163
    go_wp2
    go_loopw [13] (fun s13 wr => ∃ (k : Nat) (s : List Nat) (Bs : List Bool), k ≤ l1.length ∧ s13 = .int .i64 k ∧ Hid (augL (aug (relV l0 l1 slack) l1.length (ofL F) f) (relV l0 l1 slack) (ofL F) i (List.range' k (l1.length - k)) s = X) ∧ Hid (rest l1.length s < f + 1 ∧ SeenR l1.length s Bs) ∧ PdM V pO pS l1.length F Bs wr) (fun s13 _ => l1.length - (intOf s13).toNat)
    case atStart => exact ⟨0, s0, Bs0, Nat.zero_le _, by go_num, HX, Lib.hid ⟨hrest, hs0⟩, M0⟩
    case round =>
      clear M0 hs0 hrest HX
      obtain ⟨k, s, Bs, hk, rfl, HE, HR, M⟩ := hrel
      by_cases hlt : k < l1.length
      · have hbe := M.o.below
        have hzz := Below.size hbe
        obtain ⟨g0, o0, hA0, hg0, y0, y1, y2, y3, y4, y5⟩ := mkCells (h0.below hbe hB) hi
        obtain ⟨g1, o1, hA1, hg1, x0, x1, x2, x3, x4, x5⟩ := mkCells (h1.below hbe hB) hlt
        have HSY : Hid (MkS l0[i]) := Lib.hid (HS0.out _ (List.getElem_mem hi))
        have HSX : Hid (MkS l1[k]) := Lib.hid (HS1.out _ (List.getElem_mem hlt))
        have hR : relV l0 l1 slack (i : Int) (k : Int) = alikeV l0[i] l1[k] slack := by unfold relV; rw [Int.toNat_natCast, Int.toNat_natCast, List.getElem?_eq_getElem hi, List.getElem?_eq_getElem hlt]; rfl
        obtain ⟨x, hx'⟩ : ∃ x, l1[k] = x := ⟨_, rfl⟩
        obtain ⟨y, hy'⟩ : ∃ y, l0[i] = y := ⟨_, rfl⟩
        rw [hx'] at x0 x1 x2 x3 x4 x5 HSX hR
        rw [hy'] at y0 y1 y2 y3 y4 y5 HSY hR
        clear hx' hy'
        subst hA0
        subst hA1
        have lg0 : g0 < wr.heap.size := by omega
        have lg1 : g1 < wr.heap.size := by omega
        have i1 : ((k : Int) < (l1.length : Int)) := by omega
        have i2 : ((i : Int) < (l0.length : Int)) := by omega
        obtain ⟨b, hb⟩ : ∃ b, Bs[k]? = some b := ⟨Bs[k]'(by rw [M.blen]; exact hlt), List.getElem?_eq_getElem _⟩
        have hbs := HR.out.2.at_ k b hb
        obtain ⟨o, ho⟩ : ∃ o, F[k]? = some o := ⟨F[k]'(by rw [M.o.len]; exact hlt), List.getElem?_eq_getElem _⟩
        have HO := Lib.hid ho
        have hoF := HF.out k o ho
        have v0 := M.cell hb
        have v1 := M.o.cell ho
        have ls := M.lt
        have lo := M.o.lt
        have HC := Lib.hid (range'_cons hlt)
        have HE' : Hid (augL (aug (relV l0 l1 slack) l1.length (ofL F) f) (relV l0 l1 slack) (ofL F) i (k :: List.range' (k + 1) (l1.length - (k + 1))) s = X) := Lib.hid (by rw [← HC.out]; exact HE.out)
        cases b
        case true =>
          have hks : k ∈ s := by simpa using hbs.symm
          have HEN : Hid (augL (aug (relV l0 l1 slack) l1.length (ofL F) f) (relV l0 l1 slack) (ofL F) i (List.range' (k + 1) (l1.length - (k + 1))) s = X) := Lib.hid (by rw [← HE'.out, augL_skip (fun h => h.2 hks)])
          have HA : Hid (alikeV y x slack = alikeV y x slack) := Lib.hid rfl
          clear hR hbs
          go_upto_region 4 with fail
          refine wp_region_b 17 (by kernel_rfl) (by kernel_rfl) ?_; simp only [List.take, List.drop]
          repeat (first
            | (apply StepsD.run
               · go_simp
                 done
               · intro w' hS K hK
                 have hc := (bcell hS).1
                 have hf := (bcell hS).2
                 have hz := hS.size
                 try simp at hz
                 go_simp
                 try go_bits
                 first
                   | exact hK _ hS
                   | (go_at_call 71; (with_reducible refine (refAlike_any y x slack HSY.out HSX.out _).mono ?_); rw [HA.out]; rintro e w1 ⟨rfl, hB1⟩; obtain ⟨hc1, hf1⟩ := bcell hB1; have hz1 := hB1.size; (try simp at hz1); exact hK _ (Below.trans hS (Below.mono hB1 (by first | exact Nat.le_refl _ | (simp; done) | (simp; omega) | omega))))
                   | exact hK _ (by repeat (first | (with_reducible exact Below.refl _ _) | (with_reducible assumption) | ((with_reducible refine Below.setCell ?_ ?_ _); rotate_left; · (first | exact Nat.le_refl _ | (simp; done) | (simp; omega) | omega)) | ((with_reducible refine Below.alloc ?_ ?_ _); rotate_left; · (first | exact Nat.le_refl _ | (simp; done) | (simp; omega) | omega)) | (with_reducible apply Below.drew) | (with_reducible apply below_drewN') | (refine Below.trans ?_ (Below.mono (by assumption) (by first | exact Nat.le_refl _ | (simp; done) | (simp; omega) | omega))) | exact Below.refl _ _ | assumption))
               · simp [Act.put]
                 done)
            | (apply StepsD.pass
               · go_simp
                 done
               · simp only [Act.put, List.setIfInBounds_toArray, List.set_cons_succ, List.set_cons_zero]
                 rfl))
          refine StepsD.done ?_
          intro w2 hS
          go_wp2
          exact ⟨⟨k + 1, s, Bs, by omega, by go_num, HEN, HR, M.gr hS⟩, by simp [intOf]; omega⟩
        case false =>
        have hks : k ∉ s := by simpa using hbs.symm
        cases hRk : relV l0 l1 slack (i : Int) (k : Int)
        case false =>
          have HEN : Hid (augL (aug (relV l0 l1 slack) l1.length (ofL F) f) (relV l0 l1 slack) (ofL F) i (List.range' (k + 1) (l1.length - (k + 1))) s = X) := Lib.hid (by rw [← HE'.out, augL_skip (fun h => by rw [hRk] at h; cases h.1)])
          rw [hRk] at hR
          have HA : Hid (alikeV y x slack = false) := Lib.hid hR.symm
          clear hR hbs hRk
          go_upto_region 4 with fail
          refine wp_region_b 17 (by kernel_rfl) (by kernel_rfl) ?_; simp only [List.take, List.drop]
          repeat (first
            | (apply StepsD.run
               · go_simp
                 done
               · intro w' hS K hK
                 have hc := (bcell hS).1
                 have hf := (bcell hS).2
                 have hz := hS.size
                 try simp at hz
                 go_simp
                 try go_bits
                 first
                   | exact hK _ hS
                   | (go_at_call 71; (with_reducible refine (refAlike_any y x slack HSY.out HSX.out _).mono ?_); rw [HA.out]; rintro e w1 ⟨rfl, hB1⟩; obtain ⟨hc1, hf1⟩ := bcell hB1; have hz1 := hB1.size; (try simp at hz1); exact hK _ (Below.trans hS (Below.mono hB1 (by first | exact Nat.le_refl _ | (simp; done) | (simp; omega) | omega))))
                   | exact hK _ (by repeat (first | (with_reducible exact Below.refl _ _) | (with_reducible assumption) | ((with_reducible refine Below.setCell ?_ ?_ _); rotate_left; · (first | exact Nat.le_refl _ | (simp; done) | (simp; omega) | omega)) | ((with_reducible refine Below.alloc ?_ ?_ _); rotate_left; · (first | exact Nat.le_refl _ | (simp; done) | (simp; omega) | omega)) | (with_reducible apply Below.drew) | (with_reducible apply below_drewN') | (refine Below.trans ?_ (Below.mono (by assumption) (by first | exact Nat.le_refl _ | (simp; done) | (simp; omega) | omega))) | exact Below.refl _ _ | assumption))
               · simp [Act.put]
                 done)
            | (apply StepsD.pass
               · go_simp
                 done
               · simp only [Act.put, List.setIfInBounds_toArray, List.set_cons_succ, List.set_cons_zero]
                 rfl))
          refine StepsD.done ?_
          intro w2 hS
          go_wp2
          exact ⟨⟨k + 1, s, Bs, by omega, by go_num, HEN, HR, M.gr hS⟩, by simp [intOf]; omega⟩
        case true =>
          rw [hRk] at hR
          have HA : Hid (alikeV y x slack = true) := Lib.hid hR.symm
          have HRK : Hid (relV l0 l1 slack (i : Int) (k : Int) = true ∧ k ∉ s) := Lib.hid ⟨hRk, hks⟩
          have HRS : Hid (rest l1.length (k :: s) < f ∧ SeenR l1.length (k :: s) (Bs.set k true)) := Lib.hid ⟨by have := rest_cons hlt hks; have := HR.out.1; omega, HR.out.2.add k⟩
          clear hR hbs hRk hks
          go_upto_region 4 with fail
          refine wp_region_b 17 (by kernel_rfl) (by kernel_rfl) ?_; simp only [List.take, List.drop]
          repeat (first
            | (apply StepsD.run
               · go_simp
                 done
               · intro w' hS K hK
                 have hc := (bcell hS).1
                 have hf := (bcell hS).2
                 have hz := hS.size
                 try simp at hz
                 go_simp
                 try go_bits
                 first
                   | exact hK _ hS
                   | (go_at_call 71; (with_reducible refine (refAlike_any y x slack HSY.out HSX.out _).mono ?_); rw [HA.out]; rintro e w1 ⟨rfl, hB1⟩; obtain ⟨hc1, hf1⟩ := bcell hB1; have hz1 := hB1.size; (try simp at hz1); exact hK _ (Below.trans hS (Below.mono hB1 (by first | exact Nat.le_refl _ | (simp; done) | (simp; omega) | omega))))
                   | exact hK _ (by repeat (first | (with_reducible exact Below.refl _ _) | (with_reducible assumption) | ((with_reducible refine Below.setCell ?_ ?_ _); rotate_left; · (first | exact Nat.le_refl _ | (simp; done) | (simp; omega) | omega)) | ((with_reducible refine Below.alloc ?_ ?_ _); rotate_left; · (first | exact Nat.le_refl _ | (simp; done) | (simp; omega) | omega)) | (with_reducible apply Below.drew) | (with_reducible apply below_drewN') | (refine Below.trans ?_ (Below.mono (by assumption) (by first | exact Nat.le_refl _ | (simp; done) | (simp; omega) | omega))) | exact Below.refl _ _ | assumption))
               · simp [Act.put]
                 done)
            | (apply StepsD.pass
               · go_simp
                 done
               · simp only [Act.put, List.setIfInBounds_toArray, List.set_cons_succ, List.set_cons_zero]
                 rfl))
          refine StepsD.done ?_
          intro w2 hS
          have M1 := M.gr hS
          have s0' := M1.cell hb
          have sf := M1.frozen k
          have ls1 := M1.lt
          have M2 := M1.putS k true
          have v1' := M2.o.cell ho
          have lo2 := M2.o.lt
          have of2 := M2.o.frozen k
          clear M M1 y0 y1 y2 y3 y4 y5 x0 x1 x2 x3 x4 x5 v0 v1 ls lo hS
          by_cases hneg : o < 0
          · have hXX : X = (some [(i, k)], k :: s) := by
              rw [← HE'.out, augL_free HRK.out (by rw [ofL_at HO.out]; exact hneg)]
            have M3 := M2.putO k i
            have hd : decide (o < 0) = true := decide_eq_true hneg
            subst hXX
            go_wp2
            go_ret
            refine ⟨rfl, F.set k i, Bs.set k true, M3, ?_, ?_⟩
            · intro a z hz
              rw [List.getElem?_set] at hz
              split at hz
              · split at hz
                · obtain rfl : (i : Int) = z := by simpa using hz
                  omega
                · cases hz
              · exact HF.out a z hz
            · show ofL (F.set k i) = updK (ofL F) k i
              exact ofL_set (by rw [M2.o.len]; exact hlt)
          · obtain ⟨j, rfl⟩ : ∃ j : Nat, o = (j : Int) := ⟨o.toNat, by omega⟩
            have hj : j < l0.length := by omega
            have hd : decide ((j : Int) < 0) = false := decide_eq_false hneg
            have HREC : Hid (X = match aug (relV l0 l1 slack) l1.length (ofL F) f j (k :: s) with
              | (some p, s') => (some ((i, k) :: p), s')
              | (none, s') => augL (aug (relV l0 l1 slack) l1.length (ofL F) f) (relV l0 l1 slack) (ofL F) i (List.range' (k + 1) (l1.length - (k + 1))) s') := Lib.hid (by
                rw [← HE'.out, augL_rec HRK.out (by rw [ofL_at HO.out]; exact hneg), ofL_at HO.out, Int.toNat_natCast])
            have hih := IH.out j (k :: s) F (Bs.set k true) _ hj HRS.out.1 HRS.out.2 HF.out M2
            obtain ⟨Y, hY⟩ : ∃ Y, aug (relV l0 l1 slack) l1.length (ofL F) f j (k :: s) = Y := ⟨_, rfl⟩
            rw [hY] at hih HREC
            have HY := Lib.hid hY
            have HIH := Lib.hid hih
            clear hih hY
            go_wp2_with fail
            refine HIH.out.mono ?_
            rintro e w5 ⟨rfl, F5, B5, M5, hA5⟩
            obtain ⟨hF5, hA5⟩ := hA5
            obtain ⟨r, s5⟩ := Y
            cases r with
            | some p =>
              have hXX : X = (some ((i, k) :: p), s5) := HREC.out
              have hA5' : ofL F5 = setOf p (ofL F) := hA5
              have M6 := M5.putO k i
              have lo5 := M5.o.lt
              have of5 := M5.o.frozen k
              obtain ⟨o5, ho5⟩ : ∃ o, F5[k]? = some o := ⟨F5[k]'(by rw [M5.o.len]; exact hlt), List.getElem?_eq_getElem _⟩
              have v5 := M5.o.cell ho5
              subst hXX
              clear M2 v1' lo2 of2 s0' sf ls1
              go_wp2
              go_ret
              refine ⟨rfl, F5.set k i, B5, M6, ?_, ?_⟩
              · intro a z hz
                rw [List.getElem?_set] at hz
                split at hz
                · split at hz
                  · obtain rfl : (i : Int) = z := by simpa using hz
                    omega
                  · cases hz
                · exact hF5 a z hz
              · show ofL (F5.set k i) = updK (setOf p (ofL F)) k i
                rw [ofL_set (by rw [M5.o.len]; exact hlt), hA5']
            | none =>
              obtain ⟨rfl, hs5⟩ : F5 = F ∧ SeenR l1.length s5 B5 := hA5
              have hXX : X = augL (aug (relV l0 l1 slack) l1.length (ofL F5) f) (relV l0 l1 slack) (ofL F5) i (List.range' (k + 1) (l1.length - (k + 1))) s5 := HREC.out
              have HEN := Lib.hid hXX.symm
              have HRN : Hid (rest l1.length s5 < f + 1 ∧ SeenR l1.length s5 B5) := Lib.hid ⟨by
                have h1 := HRS.out.1
                have h2 : rest l1.length s5 ≤ rest l1.length (k :: s) := rest_mono (fun x hx => by have := aug_mono (R := relV l0 l1 slack) (m := l1.length) (of := ofL F5) f j (k :: s) x hx; rw [HY.out] at this; exact this)
                omega, hs5⟩
              clear M2 v1' lo2 of2 s0' sf ls1 hXX
              go_wp2
              exact ⟨⟨k + 1, s5, B5, by omega, by go_num, HEN, HRN, M5⟩, by simp [intOf]; omega⟩
      · obtain rfl : k = l1.length := by omega
        have hXX : X = (none, s) := by have := HE.out; rw [Nat.sub_self] at this; exact this.symm
        subst hXX
        go_wp2
        go_ret
        exact ⟨rfl, F, Bs, M, HF.out, rfl, HR.out.2⟩
end Go.Proofs.YtidgeagpgllkeaaGreat
