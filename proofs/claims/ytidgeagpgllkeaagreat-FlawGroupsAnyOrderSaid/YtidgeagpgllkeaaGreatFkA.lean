/- Plain law: marks told in another order have the same groups. -/
import Derived.Test.YtidgeagpgllkeaaGreatFfA
namespace Go.Proofs.YtidgeagpgllkeaaGreat

/-- An order of n numbers. -/
structure OrdP (n : Nat) (pl : List Int) : Prop where
  len : pl.length = n
  bd : ∀ j ∈ pl, 0 ≤ j ∧ j < n
  nodup : pl.Nodup
theorem OrdP.all {n : Nat} {pl : List Int} (h : OrdP n pl) {j : Int} (hj : 0 ≤ j ∧ j < n) : j ∈ pl := by
  have hs : ∀ x ∈ pl, x ∈ numsTo n := fun x hx => mem_numsTo.2 (h.bd x hx)
  refine Classical.byContradiction fun hn => ?_
  have h1 : (j :: pl).Nodup := List.nodup_cons.2 ⟨hn, h.nodup⟩
  have h2 := nodup_len (j :: pl) (numsTo n) h1 (fun x hx => by
    rcases List.mem_cons.1 hx with rfl | hx
    · exact mem_numsTo.2 hj
    · exact hs x hx)
  have h3 : (numsTo n).length = n := by simp [numsTo]
  have := h.len
  simp only [List.length_cons] at h2
  omega
def plAt (pl : List Int) (i : Int) : Int := pl[i.toNat]?.getD 0
def mapP (pl : List Int) (g : List Int) : List Int := g.map (plAt pl)
theorem OrdP.at_ {n : Nat} {pl : List Int} (h : OrdP n pl) {i : Int} (hi : 0 ≤ i ∧ i < n) : pl[i.toNat]? = some (plAt pl i) ∧ 0 ≤ plAt pl i ∧ plAt pl i < n := by
  have hl : i.toNat < pl.length := by rw [h.len]; omega
  have e : pl[i.toNat]? = some pl[i.toNat] := List.getElem?_eq_getElem hl
  unfold plAt
  rw [e]
  exact ⟨rfl, h.bd _ (List.getElem_mem hl)⟩
theorem OrdP.inj {n : Nat} {pl : List Int} (h : OrdP n pl) {i k : Int} (hi : 0 ≤ i ∧ i < n) (hk : 0 ≤ k ∧ k < n) (e : plAt pl i = plAt pl k) : i = k := by
  obtain ⟨h1, _⟩ := h.at_ hi
  obtain ⟨h2, _⟩ := h.at_ hk
  obtain ⟨a1, e1⟩ := List.getElem?_eq_some_iff.1 h1
  obtain ⟨a2, e2⟩ := List.getElem?_eq_some_iff.1 h2
  have : i.toNat = k.toNat := by
    rcases (by omega : i.toNat < k.toNat ∨ i.toNat = k.toNat ∨ k.toNat < i.toNat) with hlt | e0 | hlt
    · exact absurd (e1.trans (e.trans e2.symm)) (List.pairwise_iff_getElem.1 h.nodup _ _ a1 a2 hlt)
    · exact e0
    · exact absurd (e2.trans (e.symm.trans e1.symm)) (List.pairwise_iff_getElem.1 h.nodup _ _ a2 a1 hlt)
  omega
/-- The other marks are these, in the order. -/
structure MovedL (l l' : List Mk) (pl : List Int) : Prop where
  ord : OrdP l.length pl
  len : l'.length = l.length
  at_ : ∀ i : Nat, i < l.length → l'[i]? = l[(plAt pl i).toNat]?
/-- The order back. -/
def invP (pl : List Int) : List Int := (List.range pl.length).map fun (j : Nat) => (pl.idxOf (j : Int) : Int)
theorem OrdP.back {n : Nat} {pl : List Int} (h : OrdP n pl) {j : Int} (hj : 0 ≤ j ∧ j < n) : 0 ≤ plAt (invP pl) j ∧ plAt (invP pl) j < n ∧ plAt pl (plAt (invP pl) j) = j := by
  have hm := h.all hj
  have hl := List.idxOf_lt_length_iff.2 hm
  have e : plAt (invP pl) j = (pl.idxOf j : Int) := by
    unfold plAt invP
    rw [List.getElem?_map, List.getElem?_range (by rw [h.len]; omega)]
    simp only [Option.map_some, Option.getD_some]
    rw [show ((j.toNat : Nat) : Int) = j by omega]
  rw [e]
  refine ⟨by omega, by have := h.len; omega, ?_⟩
  unfold plAt
  rw [Int.toNat_natCast, List.getElem?_eq_getElem hl, List.getElem_idxOf hl]; rfl
theorem OrdP.inv {n : Nat} {pl : List Int} (h : OrdP n pl) : OrdP n (invP pl) := by
  have hl : (invP pl).length = n := by unfold invP; simp [h.len]
  have hat : ∀ i (hi : i < (invP pl).length), (invP pl)[i] = plAt (invP pl) (i : Int) := fun i hi => by
    unfold plAt; rw [Int.toNat_natCast, List.getElem?_eq_getElem hi]; rfl
  refine ⟨hl, fun j hj => ?_, List.pairwise_iff_getElem.2 fun i k hi hk hik e => ?_⟩
  · obtain ⟨i, hi, rfl⟩ := List.getElem_of_mem hj
    have := h.back (j := (i : Int)) (by omega)
    rw [hat i hi]; omega
  · rw [hat i hi, hat k hk] at e
    have b1 := (h.back (j := (i : Int)) (by omega)).2.2
    have b2 := (h.back (j := (k : Int)) (by omega)).2.2
    rw [e, b2] at b1
    omega
theorem MovedL.back {l l' : List Mk} {pl : List Int} (h : MovedL l l' pl) : MovedL l' l (invP pl) := by
  refine ⟨by rw [h.len]; exact h.ord.inv, h.len.symm, fun i hi => ?_⟩
  obtain ⟨h1, h2, h3⟩ := h.ord.back (j := (i : Int)) (by have := h.len; omega)
  have := h.at_ (plAt (invP pl) (i : Int)).toNat (by omega)
  rw [this, show (((plAt (invP pl) (i : Int)).toNat : Nat) : Int) = plAt (invP pl) i by omega, h3, Int.toNat_natCast]
theorem MovedL.hull {l l' : List Mk} {pl g : List Int} {X : Mk} (h : MovedL l l' pl) (hb : ∀ i ∈ g, 0 ≤ i ∧ i < l.length) : HullL l' g X ↔ HullL l (mapP pl g) X := by
  have key : ∀ Y, (∀ i ∈ g, ∀ m, l'[i.toNat]? = some m → subM m Y) ↔ (∀ i ∈ mapP pl g, ∀ m, l[i.toNat]? = some m → subM m Y) := fun Y => by
    constructor
    · intro hh j hj m hm
      obtain ⟨i, hi, rfl⟩ := List.mem_map.1 hj
      refine hh i hi m ?_
      have := h.at_ i.toNat (by have := hb i hi; omega)
      rw [this, show ((i.toNat : Nat) : Int) = i by have := hb i hi; omega]; exact hm
    · intro hh i hi m hm
      refine hh (plAt pl i) (List.mem_map_of_mem hi) m ?_
      have := h.at_ i.toNat (by have := hb i hi; omega)
      rw [this, show ((i.toNat : Nat) : Int) = i by have := hb i hi; omega] at hm; exact hm
  exact ⟨fun hX => ⟨(key X).1 hX.has, fun Y hY => hX.least Y ((key Y).2 hY)⟩, fun hX => ⟨(key X).2 hX.has, fun Y hY => hX.least Y ((key Y).1 hY)⟩⟩
theorem CanonG.bd {n : Nat} {D : List (List Int)} (h : CanonG n D) {g : List Int} (hg : g ∈ D) : ∀ i ∈ g, 0 ≤ i ∧ i < n := fun _ hi =>
  mem_numsTo.1 (h.perm.mem_iff.1 (List.mem_flatten.2 ⟨g, hg, hi⟩))
theorem MovedL.closed {l l' : List Mk} {pl : List Int} {r : Ru} {H : List (List Int)} (h : MovedL l l' pl) (hH : ResG l' r H) : ClosedG l r (H.map (mapP pl)) := by
  have hbd : ∀ g ∈ H, ∀ i ∈ g, 0 ≤ i ∧ i < l.length := fun g hg i hi => by have := hH.canon.bd hg i hi; rw [h.len] at this; exact this
  refine ⟨fun j hj => ?_, fun g hg => ?_, fun a ha b hb hne A B hA hB => ?_⟩
  · obtain ⟨b1, b2, b3⟩ := h.ord.back (j := (j : Int)) (by omega)
    obtain ⟨g, hg, hm⟩ := hH.closed.all (plAt (invP pl) j).toNat (by rw [h.len]; omega)
    rw [show (((plAt (invP pl) (j : Int)).toNat : Nat) : Int) = plAt (invP pl) j by omega] at hm
    exact ⟨mapP pl g, List.mem_map_of_mem hg, List.mem_map.2 ⟨_, hm, b3⟩⟩
  · obtain ⟨d, hd, rfl⟩ := List.mem_map.1 hg
    obtain ⟨X, hX⟩ := hH.closed.hull d hd
    exact ⟨X, (h.hull (hbd d hd)).1 hX⟩
  · obtain ⟨c, hc, rfl⟩ := List.mem_map.1 ha
    obtain ⟨d, hd, rfl⟩ := List.mem_map.1 hb
    exact hH.closed.apart c hc d hd (fun e => hne (by rw [e])) A B ((h.hull (hbd c hc)).2 hA) ((h.hull (hbd d hd)).2 hB)
/-- Both have the same groups. -/
structure SameG (n : Nat) (G H : List (List Int)) (pl : List Int) : Prop where
  out : ∀ g ∈ G, ∃ h ∈ H, ∀ i ∈ g, i ∈ mapP pl h
  back : ∀ h ∈ H, ∃ g ∈ G, ∀ i ∈ h, plAt pl i ∈ g
theorem sameG {l l' : List Mk} {pl : List Int} {r : Ru} {G H : List (List Int)} (h : MovedL l l' pl) (hG : ResG l r G) (hH : ResG l' r H) : SameG l.length G H pl := by
  refine ⟨fun g hg => ?_, fun a ha => ?_⟩
  · obtain ⟨q, hq, hs⟩ := hG.fit _ (h.closed hH) g hg
    obtain ⟨b, hb, rfl⟩ := List.mem_map.1 hq
    exact ⟨b, hb, hs⟩
  · obtain ⟨q, hq, hs⟩ := hH.fit _ (h.back.closed hG) a ha
    obtain ⟨g, hg, rfl⟩ := List.mem_map.1 hq
    refine ⟨g, hg, fun i hi => ?_⟩
    obtain ⟨j, hj, e⟩ := List.mem_map.1 (hs i hi)
    have hb := hG.canon.bd hg j hj
    have := (h.ord.back hb).2.2
    rw [← e, this]; exact hj
theorem SameG.same {n : Nat} {G H : List (List Int)} {pl : List Int} (ho : OrdP n pl) (hG : CanonG n G) (hH : CanonG n H) (hs : SameG n G H pl) {g g' h h' : List Int} (hg : g ∈ G) (hg' : g' ∈ G) (hh : h ∈ H) (hh' : h' ∈ H) {a b : Int} (ha : a ∈ h) (hb : b ∈ h') (hag : plAt pl a ∈ g) (hbg : plAt pl b ∈ g') : g = g' ↔ h = h' := by
  constructor
  · rintro rfl
    obtain ⟨q, hq, hm⟩ := hs.out g hg
    have key : ∀ {c : Int} {k : List Int}, k ∈ H → c ∈ k → plAt pl c ∈ g → k = q := fun {c k} hk hc hcg => by
      obtain ⟨d, hd, e⟩ := List.mem_map.1 (hm _ hcg)
      obtain rfl : d = c := ho.inj (hH.bd hq d hd) (hH.bd hk c hc) e
      exact hH.one hk hq hc hd
    rw [key hh ha hag, key hh' hb hbg]
  · rintro rfl
    obtain ⟨q, hq, hm⟩ := hs.back h hh
    rw [hG.one hg hq hag (hm a ha), hG.one hg' hq hbg (hm b hb)]
theorem nodup_of_pick {α β : Type} (R : α → β → Prop) {A : List α} {B : List β} [BEq β] [LawfulBEq β] (hA : A.Nodup) (hp : ∀ a ∈ A, ∃ b ∈ B, R a b) (hi : ∀ a ∈ A, ∀ a' ∈ A, ∀ b ∈ B, R a b → R a' b → a = a') : A.length ≤ B.length := by
  classical
  induction A generalizing B with
  | nil => simp
  | cons a A ih =>
    obtain ⟨b, hb, hr⟩ := hp a (by simp)
    rw [List.nodup_cons] at hA
    have := ih (B := B.erase b) hA.2 (fun a' ha' => by
      obtain ⟨b', hb', hr'⟩ := hp a' (List.mem_cons_of_mem _ ha')
      have : b' ≠ b := fun e => by
        subst e
        have := hi a' (List.mem_cons_of_mem _ ha') a (by simp) b' hb' hr' hr
        subst this
        exact hA.1 ha'
      exact ⟨b', (List.mem_erase_of_ne this).2 hb', hr'⟩) (fun a1 h1 a2 h2 b' hb' => hi a1 (List.mem_cons_of_mem _ h1) a2 (List.mem_cons_of_mem _ h2) b' (List.mem_of_mem_erase hb'))
    rw [List.length_erase_of_mem hb] at this
    have hpos := List.length_pos_of_mem hb
    simp only [List.length_cons]; omega
theorem CanonG.ndG {n : Nat} {D : List (List Int)} (h : CanonG n D) : D.Nodup := by
  have := h.ord
  rw [List.pairwise_map] at this
  exact this.imp (fun h e => by subst e; omega)
theorem CanonG.first {n : Nat} {D : List (List Int)} (h : CanonG n D) {g : List Int} (hg : g ∈ D) : ∃ i, i ∈ g := by
  have := h.pos g hg
  cases g with
  | nil => exact absurd rfl this
  | cons i t => exact ⟨i, by simp⟩
theorem SameG.len {n : Nat} {G H : List (List Int)} {pl : List Int} (ho : OrdP n pl) (hG : CanonG n G) (hH : CanonG n H) (hs : SameG n G H pl) : G.length = H.length := by
  refine Nat.le_antisymm ?_ ?_
  · refine nodup_of_pick (fun g h => ∀ i ∈ g, i ∈ mapP pl h) hG.ndG hs.out fun g hg g' hg' h hh r r' => ?_
    obtain ⟨i, hi⟩ := hG.first hg
    obtain ⟨j, hj⟩ := hG.first hg'
    obtain ⟨a, ha, rfl⟩ := List.mem_map.1 (r i hi)
    obtain ⟨b, hb, rfl⟩ := List.mem_map.1 (r' j hj)
    exact (hs.same ho hG hH hg hg' hh hh ha hb hi hj).2 rfl
  · refine nodup_of_pick (fun h g => ∀ i ∈ h, plAt pl i ∈ g) hH.ndG hs.back fun h hh h' hh' g hg r r' => ?_
    obtain ⟨i, hi⟩ := hH.first hh
    obtain ⟨j, hj⟩ := hH.first hh'
    exact (hs.same ho hG hH hg hg hh hh' hi hj (r i hi) (r' j hj)).1 rfl
theorem CanonG.most {n : Nat} {D : List (List Int)} (h : CanonG n D) : D.length ≤ n := by
  have := nodup_of_pick (fun (g : List Int) (i : Int) => i ∈ g) (A := D) (B := numsTo n) h.ndG (fun g hg => by
    obtain ⟨i, hi⟩ := h.first hg
    exact ⟨i, mem_numsTo.2 (h.bd hg i hi), hi⟩) (fun g hg g' hg' i _ h1 h2 => h.one hg hg' h1 h2)
  simpa [numsTo] using this
/-- What has been written of the numbers of groups: all of the first i groups, and of the next one the first k members. -/
structure FillI (n : Nat) (pl : Int → Int) (Q : List (List Int)) (i k : Nat) (F : List Int) : Prop where
  len : F.length = n
  full : ∀ (j : Nat) g, j < i → Q[j]? = some g → ∀ a ∈ g, F[(pl a).toNat]? = some (1 + (j : Int))
  part : ∀ g, Q[i]? = some g → ∀ a ∈ g.take k, F[(pl a).toNat]? = some (1 + (i : Int))
theorem FillI.next {n : Nat} {pl : Int → Int} {Q : List (List Int)} {i : Nat} {F : List Int} {g : List Int} (h : FillI n pl Q i g.length F) (hg : Q[i]? = some g) : FillI n pl Q (i + 1) 0 F := by
  refine ⟨h.len, fun j g' hj hg' a ha => ?_, fun g' _ a ha => by simp at ha⟩
  by_cases e : j = i
  · subst e
    rw [hg] at hg'
    obtain rfl : g = g' := by simpa using hg'
    exact h.part g hg a (by rw [List.take_length]; exact ha)
  · exact h.full j g' (by omega) hg' a ha
theorem FillI.store {n : Nat} {pl : Int → Int} {Q : List (List Int)} (hQ : CanonG n Q) (hpl : ∀ a b : Int, 0 ≤ a ∧ a < n → 0 ≤ b ∧ b < n → (pl a).toNat = (pl b).toNat → a = b) (hpb : ∀ a : Int, 0 ≤ a ∧ a < n → (pl a).toNat < n) {i k : Nat} {F : List Int} {g : List Int} (h : FillI n pl Q i k F) (hg : Q[i]? = some g) (hk : k < g.length) : FillI n pl Q i (k + 1) (F.set (pl g[k]).toNat (1 + (i : Int))) := by
  have hgm := List.mem_of_getElem? hg
  have hb := hQ.bd hgm _ (List.getElem_mem hk)
  have hlt : (pl g[k]).toNat < F.length := by rw [h.len]; exact hpb _ hb
  refine ⟨by rw [List.length_set]; exact h.len, fun j g' hj hg' a ha => ?_, fun g' hg' a ha => ?_⟩
  · have hgm' := List.mem_of_getElem? hg'
    have hab := hQ.bd hgm' a ha
    rw [List.getElem?_set_ne (fun e => ?_)]
    · exact h.full j g' hj hg' a ha
    · have e2 := hpl _ _ hb hab e
      have := hQ.one hgm hgm' (List.getElem_mem hk) (by rw [e2]; exact ha)
      subst this
      obtain ⟨h1, e1⟩ := List.getElem?_eq_some_iff.1 hg
      obtain ⟨h2, e2⟩ := List.getElem?_eq_some_iff.1 hg'
      exact List.pairwise_iff_getElem.1 hQ.ndG j i h2 h1 hj (e2.trans e1.symm)
  · rw [hg] at hg'
    obtain rfl : g = g' := by simpa using hg'
    by_cases e : (pl g[k]).toNat = (pl a).toNat
    · rw [e] at hlt ⊢
      rw [List.getElem?_set_self hlt]
    · rw [List.getElem?_set_ne e]
      refine h.part g hg a ?_
      rw [List.take_succ_eq_append_getElem hk] at ha
      rcases List.mem_append.1 ha with ha | ha
      · exact ha
      · obtain rfl : a = g[k] := by simpa using ha
        exact absurd rfl e
theorem FillI.get {n : Nat} {pl : Int → Int} {Q : List (List Int)} {F : List Int} (hQ : CanonG n Q) (h : FillI n pl Q Q.length 0 F) {a : Int} (ha : 0 ≤ a ∧ a < n) : ∃ (j : Nat) (g : List Int), Q[j]? = some g ∧ a ∈ g ∧ F[(pl a).toNat]? = some (1 + (j : Int)) := by
  obtain ⟨g, hg, hag⟩ := List.mem_flatten.1 (hQ.perm.mem_iff.2 (mem_numsTo.2 ha))
  obtain ⟨j, hj, rfl⟩ := List.getElem_of_mem hg
  exact ⟨j, Q[j], List.getElem?_eq_getElem hj, hag, h.full j _ hj (List.getElem?_eq_getElem hj) a hag⟩
/-- What the law compares. -/
theorem fill_same {n : Nat} {G H : List (List Int)} {pl F F' : List Int} (ho : OrdP n pl) (hG : CanonG n G) (hH : CanonG n H) (hs : SameG n G H pl) (hF : FillI n id G G.length 0 F) (hF' : FillI n (plAt pl) H H.length 0 F') {i k : Nat} (hi : i < n) (hk : k < n) :
    ∃ fi fk si sk : Int, F[i]? = some fi ∧ F[k]? = some fk ∧ F'[i]? = some si ∧ F'[k]? = some sk ∧ fi ≠ 0 ∧ si ≠ 0 ∧ (fi = fk ↔ si = sk) := by
  obtain ⟨b1, b2, b3⟩ := ho.back (j := (i : Int)) (by omega)
  obtain ⟨c1, c2, c3⟩ := ho.back (j := (k : Int)) (by omega)
  obtain ⟨j1, g1, e1, m1, f1⟩ := hF.get hG (a := (i : Int)) (by omega)
  obtain ⟨j2, g2, e2, m2, f2⟩ := hF.get hG (a := (k : Int)) (by omega)
  obtain ⟨j3, h3, e3, m3, f3⟩ := hF'.get hH (a := plAt (invP pl) (i : Int)) ⟨b1, b2⟩
  obtain ⟨j4, h4, e4, m4, f4⟩ := hF'.get hH (a := plAt (invP pl) (k : Int)) ⟨c1, c2⟩
  rw [b3, Int.toNat_natCast] at f3
  rw [c3, Int.toNat_natCast] at f4
  refine ⟨_, _, _, _, f1, f2, f3, f4, by omega, by omega, ?_⟩
  have hsm := hs.same ho hG hH (List.mem_of_getElem? e1) (List.mem_of_getElem? e2) (List.mem_of_getElem? e3) (List.mem_of_getElem? e4) m3 m4 (by rw [b3]; exact m1) (by rw [c3]; exact m2)
  have ind : ∀ {n : Nat} {Q : List (List Int)} {a b : Nat} {x y : List Int}, CanonG n Q → Q[a]? = some x → Q[b]? = some y → (x = y ↔ a = b) := fun {n Q a b x y} hQ ha hb => by
    obtain ⟨p1, q1⟩ := List.getElem?_eq_some_iff.1 ha
    obtain ⟨p2, q2⟩ := List.getElem?_eq_some_iff.1 hb
    constructor
    · intro e
      rcases (by omega : a < b ∨ a = b ∨ b < a) with hlt | e0 | hlt
      · exact absurd (q1.trans (e.trans q2.symm)) (List.pairwise_iff_getElem.1 hQ.ndG _ _ p1 p2 hlt)
      · exact e0
      · exact absurd (q2.trans (e.symm.trans q1.symm)) (List.pairwise_iff_getElem.1 hQ.ndG _ _ p2 p1 hlt)
    · rintro rfl
      rw [ha] at hb
      simpa using hb
  rw [ind hG e1 e2, ind hH e3 e4] at hsm
  constructor
  · intro h; have := hsm.1 (by omega); omega
  · intro h; have := hsm.2 (by omega); omega
end Go.Proofs.YtidgeagpgllkeaaGreat
