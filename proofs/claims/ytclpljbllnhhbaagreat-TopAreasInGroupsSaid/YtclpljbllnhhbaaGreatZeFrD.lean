/- Plain law of FlawCompares: the search for partners, and a cover with as many members as there are pairs. Plain law of TopAreasInGroups: marks of single cells, their groups and the areas of the cells. Contract: numbers as text (base.Decimal). Plain law of TopAreasInGroups: the marks are right. TopAreasInGroups: the scans are small (loop 1). -/
import Derived.Laws.BytesString
import Derived.Laws.Cells
import Derived.Test.YtclpljbllnhhbaaGreatZeFkA
import Derived.Test.YtclpljbllnhhbaaGreatZeFiD
import Derived.Test.YtclpljbllnhhbaaGreatZeFjB
import Derived.Test.YtclpljbllnhhbaaGreatZeFcP
import Derived.Test.YtclpljbllnhhbaaGreatZeFgD
namespace Go.Proofs.YtclpljbllnhhbaaGreat
/-- How many have not been tried. -/
def rest (m : Nat) (s : List Nat) : Nat := (List.range m).countP (fun k => decide (k ∉ s))

def numsV (n : Nat) (x : Nat → Bool) : List Int := ((List.range n).filter x).map (fun (a : Nat) => (a : Int))
theorem mem_numsV {n : Nat} {x : Nat → Bool} {i : Int} : i ∈ numsV n x ↔ ∃ a : Nat, a < n ∧ x a = true ∧ (a : Int) = i := by
  unfold numsV
  simp only [List.mem_map, List.mem_filter, List.mem_range]
  exact ⟨fun ⟨a, ⟨h1, h2⟩, h3⟩ => ⟨a, h1, h2, h3⟩, fun ⟨a, h1, h2, h3⟩ => ⟨a, ⟨h1, h2⟩, h3⟩⟩
theorem range_asc (n : Nat) : (List.range n).Pairwise fun a b => a < b := List.pairwise_lt_range
theorem numsV_asc (n : Nat) (x : Nat → Bool) : (numsV n x).Pairwise fun a b => a < b := by
  unfold numsV
  rw [List.pairwise_map]
  exact ((range_asc n).filter _).imp fun h => by omega
end Go.Proofs.YtclpljbllnhhbaaGreat

namespace Go.Proofs.YtclpljbllnhhbaaGreat

/-- The mark of one cell. -/
def cellMk (d0 d1 : Int) (c : Int × Int) (nm : ByteArray) (lv : Int) : Mk := ⟨nm, c.1 * d0, (c.1 + 1) * d0, c.2 * d1, (c.2 + 1) * d1, lv⟩
theorem spanM_one (d0 d1 : Int) (c : Int × Int) (nm : ByteArray) (lv : Int) : spanM [c] d0 d1 nm lv = cellMk d0 d1 c nm lv := by
  unfold spanM cellMk
  have h (a : Nat) : spanP a [c] [c].length = (axC a c, axC a c) := spanP_one (by simp)
  rw [h 0, h 1]; rfl
/-- The rule under which marks must touch. -/
def ruT : Ru := ⟨0, 0, 0, 1⟩
theorem ruT_s : RuS ruT := ⟨by decide, by decide, by decide, by decide⟩
theorem ruT_ok : ruleE ruT = 0 := by decide
theorem touch_gap {d p q : Int} (hd : 0 ≤ d) (h0 : -1 ≤ q - p) (h1 : q - p ≤ 1) : gapV (p * d) ((p + 1) * d) (q * d) ((q + 1) * d) = 0 := by
  have a : q * d ≤ (p + 1) * d := Int.mul_le_mul_of_nonneg_right (by omega) hd
  have b : p * d ≤ (q + 1) * d := Int.mul_le_mul_of_nonneg_right (by omega) hd
  unfold gapV; omega
theorem touch {d0 d1 : Int} (h0 : 0 ≤ d0) (h1 : 0 ≤ d1) {p q : Int × Int} (h : nbB true p q = true) (nm nm' : ByteArray) (lv lv' : Int) : interactV (cellMk d0 d1 p nm lv) (cellMk d0 d1 q nm' lv') ruT = true := by
  unfold nbB at h
  simp only [Bool.and_eq_true, decide_eq_true_eq] at h
  obtain ⟨⟨⟨⟨a, b⟩, c⟩, d⟩, _⟩ := h
  unfold interactV nearV cellMk ruT
  dsimp only
  rw [touch_gap h0 a b, touch_gap h1 c d]
  simp
/-- A mark for each cell. -/
structure CellMs (g : Int → Int → Int) (d0 d1 : Int) (C : List (Int × Int)) (l : List Mk) : Prop where
  len : l.length = C.length
  at_ : ∀ (i : Nat) (c : Int × Int), C[i]? = some c → ∃ nm, l[i]? = some (cellMk d0 d1 c nm (max 0 (g c.1 c.2)))
def inGr (C : List (Int × Int)) (k : List Int) (p : Int × Int) : Prop := ∃ i : Nat, C[i]? = some p ∧ (i : Int) ∈ k
section
variable {g : Int → Int → Int} {level : Int} {C : List (Int × Int)} {d0 d1 : Int} {l : List Mk} {D : List (List Int)}
theorem lt_of_some {α : Type} {l : List α} {i : Nat} {x : α} (h : l[i]? = some x) : i < l.length := (List.getElem?_eq_some_iff.1 h).1
/-- What hangs together lies in one group. -/
theorem conn_group (hP : Pls g level C) (h0 : 0 ≤ d0) (h1 : 0 ≤ d1) (hM : CellMs g d0 d1 C l) (hD : ResG l ruT D) {p q : Int × Int} (h : Conn g level true p q) : ∀ k ∈ D, inGr C k p → inGr C k q := by
  induction h with
  | refl => exact fun k _ h => h
  | @step x y hx hn ha ih =>
    intro k hk hp
    obtain ⟨i, hi, hik⟩ := ih k hk hp
    obtain ⟨j, hj, hjy⟩ := List.getElem_of_mem ((hP.mem y).2 ha)
    have hj' : C[j]? = some y := by rw [List.getElem?_eq_getElem hj, hjy]
    obtain ⟨k', hk', hjk⟩ := hD.closed.all j (by rw [hM.len]; exact hj)
    by_cases e : k = k'
    · subst e; exact ⟨j, hj', hjk⟩
    · obtain ⟨H, hH⟩ := hD.closed.hull k hk
      obtain ⟨H', hH'⟩ := hD.closed.hull k' hk'
      obtain ⟨nm, hm⟩ := hM.at_ i x hi
      obtain ⟨nm', hm'⟩ := hM.at_ j y hj'
      have s1 := hH.has (i : Int) hik _ (by simpa using hm)
      have s2 := hH'.has (j : Int) hjk _ (by simpa using hm')
      have := interact_mono ruT_s s1 s2 (touch h0 h1 (mem_nb9.1 hn) nm nm' _ _)
      rw [hD.closed.apart k hk k' hk' e H H' hH hH'] at this
      cases this
/-- The numbers of the cells of an area. -/
def oneV (C : List (Int × Int)) (x : Int × Int) : List Int := numsV C.length (fun n => decide (C[n]?.getD (0, 0) = x))
def ownV (C cs : List (Int × Int)) : List Int := cs.flatMap (oneV C)
theorem oneV_at (hP : Pls g level C) {j : Nat} {x : Int × Int} (hj : C[j]? = some x) : oneV C x = [(j : Int)] := by
  have hjl := lt_of_some hj
  refine eq_of_mem (R := fun a b : Int => a < b) (fun a b h h' => by omega) (numsV_asc _ _) (by simp) (fun i => ?_)
  unfold oneV
  rw [mem_numsV, List.mem_singleton]
  constructor
  · rintro ⟨a, ha, hx, rfl⟩
    rw [decide_eq_true_eq, List.getElem?_eq_getElem ha] at hx
    have : C[a]? = some x := by rw [List.getElem?_eq_getElem ha]; exact congrArg some hx
    rw [hP.inj this hj]
  · rintro rfl
    exact ⟨j, hjl, by rw [hj]; simp, rfl⟩
theorem ownV_len (hP : Pls g level C) : ∀ {cs : List (Int × Int)}, (∀ x ∈ cs, x ∈ C) → (ownV C cs).length = cs.length
  | [], _ => rfl
  | x :: cs, h => by
    obtain ⟨j, hj, hx⟩ := List.getElem_of_mem (h x (by simp))
    have e : C[j]? = some x := by rw [List.getElem?_eq_getElem hj, hx]
    have ih := ownV_len hP (cs := cs) (fun y hy => h y (List.mem_cons_of_mem _ hy))
    unfold ownV at ih ⊢
    rw [List.flatMap_cons, List.length_append, oneV_at hP e, ih]
    simp; omega
theorem mem_ownV (hP : Pls g level C) {cs : List (Int × Int)} (h : ∀ x ∈ cs, x ∈ C) {i : Int} : i ∈ ownV C cs ↔ ∃ (j : Nat) (x : Int × Int), x ∈ cs ∧ C[j]? = some x ∧ i = (j : Int) := by
  unfold ownV
  rw [List.mem_flatMap]
  constructor
  · rintro ⟨x, hx, hi⟩
    obtain ⟨j, hj, hjx⟩ := List.getElem_of_mem (h x hx)
    have e : C[j]? = some x := by rw [List.getElem?_eq_getElem hj, hjx]
    rw [oneV_at hP e, List.mem_singleton] at hi
    exact ⟨j, x, hx, e, hi⟩
  · rintro ⟨j, x, hx, hj, rfl⟩
    exact ⟨x, hx, by rw [oneV_at hP hj]; simp⟩
/-- The cells of an area are known cells of the level, and hang together. -/
structure AreaIn (g : Int → Int → Int) (level : Int) (C cs : List (Int × Int)) : Prop where
  pos : 0 < cs.length
  sub : ∀ x ∈ cs, x ∈ C
  conn : ∃ p ∈ cs, ∀ x ∈ cs, Conn g level true p x
theorem AreaOk.in_ (hP : Pls g level C) {p : Int × Int} {cs : List (Int × Int)} (hp : p ∈ C) (h : AreaOk g level true p cs) : AreaIn g level C cs := by
  have hpc : p ∈ cs := (h.mem p).2 .refl
  exact ⟨List.length_pos_of_mem hpc, fun x hx => (hP.mem x).2 (Conn.abv ((hP.mem p).1 hp) ((h.mem x).1 hx)), p, hpc, fun x hx => (h.mem x).1 hx⟩
/-- An area lies in one group, whole. -/
theorem AreaIn.whole (hP : Pls g level C) (h0 : 0 ≤ d0) (h1 : 0 ≤ d1) (hM : CellMs g d0 d1 C l) (hD : ResG l ruT D) {cs : List (Int × Int)} (h : AreaIn g level C cs) : ∃ k ∈ D, ∀ i ∈ ownV C cs, i ∈ k := by
  obtain ⟨p, hp, hc⟩ := h.conn
  obtain ⟨j, hj, hjp⟩ := List.getElem_of_mem (h.sub p hp)
  have e : C[j]? = some p := by rw [List.getElem?_eq_getElem hj, hjp]
  obtain ⟨k, hk, hjk⟩ := hD.closed.all j (by rw [hM.len]; exact hj)
  refine ⟨k, hk, fun i hi => ?_⟩
  obtain ⟨a, x, hx, ha, rfl⟩ := (mem_ownV hP h.sub).1 hi
  obtain ⟨b, hb, hbk⟩ := conn_group hP h0 h1 hM hD (hc x hx) k hk ⟨j, e, hjk⟩
  rw [hP.inj ha hb]; exact hbk
/-- There are not more groups than areas. -/
theorem groups_le (hP : Pls g level C) (h0 : 0 ≤ d0) (h1 : 0 ≤ d1) (hM : CellMs g d0 d1 C l) (hD : ResG l ruT D) {As : List (List (Int × Int))} (hA : ∀ cs ∈ As, AreaIn g level C cs) (hC : ∀ x ∈ C, ∃ cs ∈ As, x ∈ cs) : D.length ≤ As.length := by
  have hnd : D.Nodup := by
    have := hD.canon.ord
    rw [List.pairwise_map] at this
    exact this.imp fun h e => by subst e; omega
  refine nodup_of_pick (fun (k : List Int) (cs : List (Int × Int)) => ∃ x ∈ cs, inGr C k x) hnd (fun k hk => ?_) (fun k hk k' hk' cs hcs h h' => ?_)
  · obtain ⟨i, hi⟩ : ∃ i, i ∈ k := by
      cases k with
      | nil => exact absurd rfl (hD.canon.pos [] hk)
      | cons i t => exact ⟨i, by simp⟩
    have hb := mem_numsTo.1 (hD.canon.perm.mem_iff.1 (List.mem_flatten.2 ⟨k, hk, hi⟩))
    have hlt : i.toNat < C.length := by rw [hM.len] at hb; omega
    obtain ⟨cs, hcs, hx⟩ := hC C[i.toNat] (List.getElem_mem hlt)
    exact ⟨cs, hcs, C[i.toNat], hx, i.toNat, List.getElem?_eq_getElem hlt, by rw [show ((i.toNat : Nat) : Int) = i by omega]; exact hi⟩
  · obtain ⟨q, hq, hw⟩ := (hA cs hcs).whole hP h0 h1 hM hD
    have one : ∀ k ∈ D, (∃ x ∈ cs, inGr C k x) → k = q := fun k hk ⟨x, hx, i, hi, hik⟩ => hD.canon.one hk hq hik (hw _ ((mem_ownV hP (hA cs hcs).sub).2 ⟨i, x, hx, hi, rfl⟩))
    rw [one k hk h, one k' hk' h']
theorem spanP_has {a : Nat} {cs : List (Int × Int)} (hp : 0 < cs.length) : ∀ k, k ≤ cs.length → (∀ x ∈ cs.take k, (spanP a cs k).1 ≤ axC a x ∧ axC a x ≤ (spanP a cs k).2) ∧ (∃ x ∈ cs, axC a x = (spanP a cs k).1) ∧ ∃ x ∈ cs, axC a x = (spanP a cs k).2
  | 0, _ => by
    rw [spanP_zero hp]
    exact ⟨fun x hx => by simp at hx, ⟨cs[0], List.getElem_mem hp, rfl⟩, cs[0], List.getElem_mem hp, rfl⟩
  | k + 1, h => by
    obtain ⟨a1, a2, a3⟩ := spanP_has (a := a) hp k (by omega)
    have hk : k < cs.length := by omega
    rw [spanP_succ hk]
    refine ⟨fun x hx => ?_, ?_, ?_⟩
    · rw [List.take_succ_eq_append_getElem hk] at hx
      rcases List.mem_append.1 hx with hx | hx
      · have := a1 x hx; dsimp only; omega
      · obtain rfl : x = cs[k] := by simpa using hx
        dsimp only; omega
    · obtain ⟨x, hx, e⟩ := a2
      by_cases hc : (spanP a cs k).1 ≤ axC a cs[k]
      · exact ⟨x, hx, by dsimp only; omega⟩
      · exact ⟨cs[k], List.getElem_mem hk, by dsimp only; omega⟩
    · obtain ⟨x, hx, e⟩ := a3
      by_cases hc : axC a cs[k] ≤ (spanP a cs k).2
      · exact ⟨x, hx, by dsimp only; omega⟩
      · exact ⟨cs[k], List.getElem_mem hk, by dsimp only; omega⟩
/-- The mark of an area is the hull of its cells' marks. -/
theorem span_hull (hP : Pls g level C) (h0 : 0 ≤ d0) (h1 : 0 ≤ d1) (hM : CellMs g d0 d1 C l) {cs : List (Int × Int)} (h : AreaIn g level C cs) (nm : ByteArray) (lv : Int) : HullL l (ownV C cs) (spanM cs d0 d1 nm lv) := by
  obtain ⟨p1, p2, p3⟩ := spanP_has (a := 0) h.pos cs.length (Nat.le_refl _)
  obtain ⟨q1, q2, q3⟩ := spanP_has (a := 1) h.pos cs.length (Nat.le_refl _)
  rw [List.take_length] at p1 q1
  refine ⟨fun i hi m hm => ?_, fun X hX => ?_⟩
  · obtain ⟨j, x, hx, hj, rfl⟩ := (mem_ownV hP h.sub).1 hi
    obtain ⟨nm', hm'⟩ := hM.at_ j x hj
    rw [Int.toNat_natCast, hm'] at hm
    obtain rfl : cellMk d0 d1 x nm' (max 0 (g x.1 x.2)) = m := by simpa using hm
    have a := p1 x hx
    have b := q1 x hx
    have e0 : axC 0 x = x.1 := rfl
    have e1 : axC 1 x = x.2 := rfl
    rw [e0] at a
    rw [e1] at b
    unfold subM cellMk spanM
    dsimp only
    exact ⟨Int.mul_le_mul_of_nonneg_right a.1 h0, Int.mul_le_mul_of_nonneg_right (by omega) h0, Int.mul_le_mul_of_nonneg_right b.1 h1, Int.mul_le_mul_of_nonneg_right (by omega) h1⟩
  · have key : ∀ x ∈ cs, X.al ≤ x.1 * d0 ∧ (x.1 + 1) * d0 ≤ X.ah ∧ X.dl ≤ x.2 * d1 ∧ (x.2 + 1) * d1 ≤ X.dh := fun x hx => by
      obtain ⟨j, hj, hjx⟩ := List.getElem_of_mem (h.sub x hx)
      have e : C[j]? = some x := by rw [List.getElem?_eq_getElem hj, hjx]
      obtain ⟨nm', hm'⟩ := hM.at_ j x e
      exact hX (j : Int) ((mem_ownV hP h.sub).2 ⟨j, x, hx, e, rfl⟩) _ (by simpa using hm')
    obtain ⟨x0, hx0, e0⟩ := p2
    obtain ⟨x1, hx1, e1⟩ := p3
    obtain ⟨y0, hy0, f0⟩ := q2
    obtain ⟨y1, hy1, f1⟩ := q3
    have e0 : x0.1 = (spanP 0 cs cs.length).1 := e0
    have e1 : x1.1 = (spanP 0 cs cs.length).2 := e1
    have f0 : y0.2 = (spanP 1 cs cs.length).1 := f0
    have f1 : y1.2 = (spanP 1 cs cs.length).2 := f1
    unfold subM spanM
    dsimp only
    rw [← e0, ← e1, ← f0, ← f1]
    exact ⟨(key x0 hx0).1, (key x1 hx1).2.1, (key y0 hy0).2.2.1, (key y1 hy1).2.2.2⟩
theorem hullL_same {ns : List Int} {A B : Mk} (ha : HullL l ns A) (hb : HullL l ns B) : A.al = B.al ∧ A.ah = B.ah ∧ A.dl = B.dl ∧ A.dh = B.dh := by
  have h1 := ha.mono hb (fun _ h => h)
  have h2 := hb.mono ha (fun _ h => h)
  unfold subM at h1 h2; omega
/-- The level of a hull is the greatest of its marks. -/
theorem hullR_lv {ns : List Int} (hp : ns ≠ []) (hb : ∀ i ∈ ns, 0 ≤ i ∧ i < l.length) : (∀ i ∈ ns, ∀ m, l[i.toNat]? = some m → m.lv ≤ (hullR l ns).lv) ∧ ∃ i ∈ ns, ∃ m, l[i.toNat]? = some m ∧ m.lv = (hullR l ns).lv := by
  cases ns with
  | nil => exact absurd rfl hp
  | cons i t =>
    have key : ∀ (t a : List Int) (o : Mk), ((∀ i ∈ a, ∀ m, l[i.toNat]? = some m → m.lv ≤ o.lv) ∧ ∃ i ∈ a, ∃ m, l[i.toNat]? = some m ∧ m.lv = o.lv) → (∀ i ∈ t, 0 ≤ i ∧ i < l.length) →
        (∀ i ∈ a ++ t, ∀ m, l[i.toNat]? = some m → m.lv ≤ (t.foldl (fun o j => hullV o (l[j.toNat]?.getD o)) o).lv) ∧ ∃ i ∈ a ++ t, ∃ m, l[i.toNat]? = some m ∧ m.lv = (t.foldl (fun o j => hullV o (l[j.toNat]?.getD o)) o).lv := by
      intro t
      induction t with
      | nil => intro a o h _; simpa using h
      | cons j t ih =>
        intro a o h hb
        have hj := hb j (by simp)
        have hjl : j.toNat < l.length := by omega
        have e : l[j.toNat]? = some l[j.toNat] := List.getElem?_eq_getElem hjl
        have := ih (a ++ [j]) (hullV o (l[j.toNat]?.getD o)) ?_ (fun i hi => hb i (List.mem_cons_of_mem _ hi))
        · rw [List.append_assoc] at this
          exact this
        · rw [e]
          show (∀ i ∈ a ++ [j], ∀ m, l[i.toNat]? = some m → m.lv ≤ max o.lv l[j.toNat].lv) ∧ ∃ i ∈ a ++ [j], ∃ m, l[i.toNat]? = some m ∧ m.lv = max o.lv l[j.toNat].lv
          refine ⟨fun i hi m hm => ?_, ?_⟩
          · rcases List.mem_append.1 hi with hi | hi
            · have := h.1 i hi m hm; omega
            · obtain rfl : i = j := by simpa using hi
              rw [e] at hm
              obtain rfl : l[i.toNat] = m := by simpa using hm
              omega
          · obtain ⟨i, hi, m, hm, hlv⟩ := h.2
            by_cases hc : l[j.toNat].lv ≤ o.lv
            · exact ⟨i, List.mem_append.2 (.inl hi), m, hm, by omega⟩
            · exact ⟨j, by simp, _, e, by omega⟩
    have hi := hb i (by simp)
    have hil : i.toNat < l.length := by omega
    have e : l[i.toNat]? = some l[i.toNat] := List.getElem?_eq_getElem hil
    have := key t [i] l[i.toNat] ⟨fun j hj m hm => ?_, i, by simp, _, e, rfl⟩ (fun j hj => hb j (List.mem_cons_of_mem _ hj))
    · unfold hullR
      dsimp only
      rw [e]; exact this
    · obtain rfl : j = i := by simpa using hj
      rw [e] at hm
      obtain rfl : l[j.toNat] = m := by simpa using hm
      exact Int.le_refl _
def withName (nm : ByteArray) (m : Mk) : Mk := ⟨nm, m.al, m.ah, m.dl, m.dh, m.lv⟩
/-- The mark of an area is the hull of its cells' marks, but for the name. -/
theorem area_mark (hP : Pls g level C) (h0 : 0 ≤ d0) (h1 : 0 ≤ d1) (hM : CellMs g d0 d1 C l) {cs : List (Int × Int)} (h : AreaIn g level C cs) (nm : ByteArray) : spanM cs d0 d1 nm (g (peakV g cs).1 (peakV g cs).2) = withName nm (hullR l (ownV C cs)) := by
  have hne : cs ≠ [] := fun e => by have := h.pos; rw [e] at this; simp at this
  have hown : ownV C cs ≠ [] := fun e => by have := ownV_len hP h.sub; rw [e] at this; have := h.pos; simp at *; omega
  have hb : ∀ i ∈ ownV C cs, 0 ≤ i ∧ i < l.length := fun i hi => by
    obtain ⟨j, x, _, hj, rfl⟩ := (mem_ownV hP h.sub).1 hi
    have := lt_of_some hj
    rw [hM.len]; omega
  obtain ⟨a, b, c, d⟩ := hullL_same (span_hull hP h0 h1 hM h nm (g (peakV g cs).1 (peakV g cs).2)) (hullR_ok hown hb)
  obtain ⟨pm, pg⟩ := peak_spec g hne
  obtain ⟨u, i, hi, m, hm, hlv⟩ := hullR_lv hown hb
  have pos : ∀ x ∈ cs, 0 ≤ g x.1 x.2 := fun x hx => ((abv_iff _ _ _ _).1 ((hP.mem x).1 (h.sub x hx))).1
  have e : g (peakV g cs).1 (peakV g cs).2 = (hullR l (ownV C cs)).lv := by
    have lvof : ∀ (j : Nat) (x : Int × Int) m, x ∈ cs → C[j]? = some x → l[j]? = some m → m.lv = g x.1 x.2 := fun j x m hx hj hm => by
      obtain ⟨nm', hm'⟩ := hM.at_ j x hj
      rw [hm'] at hm
      obtain rfl : cellMk d0 d1 x nm' (max 0 (g x.1 x.2)) = m := by simpa using hm
      have := pos x hx
      show max 0 (g x.1 x.2) = g x.1 x.2
      omega
    obtain ⟨j, x, hx, hj, rfl⟩ := (mem_ownV hP h.sub).1 hi
    rw [Int.toNat_natCast] at hm
    have e1 := lvof j x m hx hj hm
    have e2 := pg x hx
    obtain ⟨k, hk, hkx⟩ := List.getElem_of_mem (h.sub _ pm)
    have ek : C[k]? = some (peakV g cs) := by rw [List.getElem?_eq_getElem hk, hkx]
    obtain ⟨nm', hm'⟩ := hM.at_ k _ ek
    have e3 := u (k : Int) ((mem_ownV hP h.sub).2 ⟨k, _, pm, ek, rfl⟩) _ (by simpa using hm')
    rw [lvof k _ _ pm ek hm'] at e3
    omega
  unfold withName
  rw [← a, ← b, ← c, ← d, ← e]
  rfl
end
end Go.Proofs.YtclpljbllnhhbaaGreat

namespace Go.Proofs.YtclpljbllnhhbaaGreat
open Go.RowKit Go.Shelf

theorem conv_one (w : World) (g : Nat) (b : Int) (hc : w.cell? ⟨g, 0, none⟩ = some (.int .u8 b)) : (convert 83 9 (.slice (some ⟨g, 0, none⟩) 1 1)).run Tryz.prog w = .ok (.string ⟨#[UInt8.ofNat b.toNat]⟩) w := by
  rw [run_convert_bytes_string w _ _ 5 _ _ _ Tryz.underlying83 Tryz.underlying5 Tryz.underlying9]
  rw [run_bytesToString w _ 1 1 [b] (by
    have := run_loadCells_list (P := Tryz.prog) (w := w) (⟨g, 0, none⟩ : Addr) [.int .u8 b] (fun j v hj => by
      match j, hj with
      | 0, hj => simp at hj; subst hj; exact hc
      | j + 1, hj => simp at hj)
    simpa using this)]
  rfl
def dgB (d : Int) : UInt8 := UInt8.ofNat (48 + d).toNat
/-- The decimal text of a number below 100. -/
def dgV (n : Int) : ByteArray := if n = 0 then ⟨#[48]⟩ else if n < 10 then ⟨#[dgB n]⟩ else ⟨#[dgB (n / 10), dgB (n % 10)]⟩

theorem dgV_size (n : Int) : (dgV n).size ≤ 2 := by
  unfold dgV
  split
  · decide
  · split
    · exact (by decide : 1 ≤ 2)
    · exact (by decide : 2 ≤ 2)
theorem bcat_nil (x : ByteArray) : x ++ (⟨#[]⟩ : ByteArray) = x := by apply ByteArray.ext; simp [ByteArray.data_append]
theorem nil_bcat (x : ByteArray) : (⟨#[]⟩ : ByteArray) ++ x = x := by apply ByteArray.ext; simp [ByteArray.data_append]
set_option maxRecDepth 100000 in
set_option maxHeartbeats 8000000 in
theorem decimal_any (n : Int) (h0 : 0 ≤ n) (h1 : n < 100) (w : World) : Calls Tryz.prog 12 #[.int .i64 n] w fun e w' => e = .returned (.string (dgV n)) ∧ Below w.heap.size w w' := by
  have HS : Hid (n = 0 → dgV n = ⟨#[48]⟩) := Lib.hid (fun h => by unfold dgV; rw [if_pos h])
  have HS1 : Hid (n ≠ 0 → n < 10 → dgV n = ⟨#[dgB n]⟩) := Lib.hid (fun h h1 => by unfold dgV; rw [if_neg h, if_pos h1])
  have HS2 : Hid (10 ≤ n → dgV n = ⟨#[dgB (n / 10), dgB (n % 10)]⟩) := Lib.hid (fun h => by unfold dgV; rw [if_neg (by omega), if_neg (by omega)])
  go_enter Tryz.func12, Tryz.ntmps12
  by_cases hz : n = 0
  · rw [HS.out hz]
    subst hz
    go_wp2
    go_ret
    exact ⟨rfl, Below.refl _ _⟩
  have hn0 : ¬ n < 0 := by omega
  go_wp2
  go_loopw [0, 3] (fun s0 s3 wr => Below w.heap.size w wr ∧ ((s0 = .int .i64 n ∧ s3 = .string ⟨#[]⟩) ∨ (10 ≤ n ∧ s0 = .int .i64 (n / 10) ∧ s3 = .string ⟨#[dgB (n % 10)]⟩) ∨ (s0 = .int .i64 0 ∧ s3 = .string (dgV n)))) (fun s0 _ _ => (intOf s0).toNat)
  case atStart => exact ⟨Below.refl _ _, .inl ⟨rfl, rfl⟩⟩
  case round =>
    obtain ⟨hBB, hrel⟩ := hrel
    have hzw := Below.size hBB
    rcases hrel with ⟨rfl, rfl⟩ | ⟨h10, rfl, rfl⟩ | ⟨rfl, rfl⟩
    · have hm : Int.tmod n 10 = n % 10 := Int.tmod_eq_emod_of_nonneg h0
      have hd : Int.tdiv n 10 = n / 10 := Int.tdiv_eq_ediv_of_nonneg h0
      have hmx : max (n % 10) (-(n % 10)) = n % 10 := by omega
      have below_ : Below w.heap.size w (wr.alloc (.cells #[.int .u8 (48 + n % 10)] 5)) := (by repeat (first | (with_reducible exact Below.refl _ _) | (with_reducible assumption) | ((with_reducible refine Below.setCell ?_ ?_ _); rotate_left; · (first | exact Nat.le_refl _ | (simp; done) | (simp; omega) | omega)) | ((with_reducible refine Below.alloc ?_ ?_ _); rotate_left; · (first | exact Nat.le_refl _ | (simp; done) | (simp; omega) | omega)) | (with_reducible apply Below.drew) | (with_reducible apply below_drewN') | (refine Below.trans ?_ (Below.mono (by assumption) (by first | exact Nat.le_refl _ | (simp; done) | (simp; omega) | omega))) | exact Below.refl _ _ | assumption))
      have hcv := conv_one (wr.alloc (.cells #[.int .u8 (48 + n % 10)] 5)) wr.heap.size (48 + n % 10) (cell_one_new _ _ _ 0 _ rfl)
      go_wp2_with fail
      refine (size_any _ (by omega) _).mono ?_
      rintro e w2 ⟨rfl, rfl⟩
      rw [hmx]
      go_wp2
      refine ⟨⟨below_, ?_⟩, by simp [intOf]; omega⟩
      rw [bcat_nil]
      by_cases h10 : n < 10
      · have e0 : n / 10 = 0 := by omega
        have e1 : n % 10 = n := by omega
        rw [e0, e1]
        exact .inr (.inr ⟨rfl, by rw [HS1.out hz h10]; rfl⟩)
      · exact .inr (.inl ⟨by omega, rfl, rfl⟩)
    · have hm : Int.tmod (n / 10) 10 = n / 10 := by rw [Int.tmod_eq_emod_of_nonneg (by omega)]; omega
      have hd : Int.tdiv (n / 10) 10 = 0 := by rw [Int.tdiv_eq_ediv_of_nonneg (by omega)]; omega
      have hne : ((n / 10) != 0) = true := by simp; omega
      have hmx : max (n / 10) (-(n / 10)) = n / 10 := by omega
      have hcv := conv_one (wr.alloc (.cells #[.int .u8 (48 + n / 10)] 5)) wr.heap.size (48 + n / 10) (cell_one_new _ _ _ 0 _ rfl)
      have below_ : Below w.heap.size w (wr.alloc (.cells #[.int .u8 (48 + n / 10)] 5)) := (by repeat (first | (with_reducible exact Below.refl _ _) | (with_reducible assumption) | ((with_reducible refine Below.setCell ?_ ?_ _); rotate_left; · (first | exact Nat.le_refl _ | (simp; done) | (simp; omega) | omega)) | ((with_reducible refine Below.alloc ?_ ?_ _); rotate_left; · (first | exact Nat.le_refl _ | (simp; done) | (simp; omega) | omega)) | (with_reducible apply Below.drew) | (with_reducible apply below_drewN') | (refine Below.trans ?_ (Below.mono (by assumption) (by first | exact Nat.le_refl _ | (simp; done) | (simp; omega) | omega))) | exact Below.refl _ _ | assumption))
      go_wp2_with fail
      refine (size_any _ (by omega) _).mono ?_
      rintro e w2 ⟨rfl, rfl⟩
      rw [hmx]
      go_wp2
      refine ⟨⟨below_, ?_⟩, by simp [intOf]; omega⟩
      exact .inr (.inr ⟨rfl, by rw [HS2.out h10]; rfl⟩)
    · have hz' : ((0 : Int) != 0) = false := rfl
      have hsz : (dgV n).size ≤ 2 := dgV_size n
      go_wp2
      rw [nil_bcat]
      go_ret
      exact ⟨rfl, hBB⟩
end Go.Proofs.YtclpljbllnhhbaaGreat

namespace Go.Proofs.YtclpljbllnhhbaaGreat

/-- The name of a cell's mark. -/
def nmV (i : Nat) : ByteArray := (⟨#[109]⟩ : ByteArray) ++ dgV i
theorem nmV_ok : ∀ i, i < 20 → nameB (nmV i) = true := by decide +kernel
theorem nmV_apart : ∀ i, i < 20 → ∀ j, j < 20 → j ≠ i → sameB (nmV j) (nmV i) = false := by decide +kernel
theorem nmV_size : ∀ i, i < 20 → (nmV i).size ≤ 3 := by decide +kernel
/-- Cells and steps of this law's size. -/
def inS (c : Int × Int) : Prop := (-90 ≤ c.1 ∧ c.1 ≤ 90) ∧ -90 ≤ c.2 ∧ c.2 ≤ 90
theorem prod_sm {x d : Int} (hx : -90 ≤ x ∧ x ≤ 91) (hd : 1 ≤ d ∧ d ≤ 10000) : -1000000 ≤ x * d ∧ x * d ≤ 1000000 := by
  have a : x * d ≤ 91 * d := Int.mul_le_mul_of_nonneg_right hx.2 (by omega)
  have b : -90 * d ≤ x * d := Int.mul_le_mul_of_nonneg_right hx.1 (by omega)
  omega
theorem mark_ok {m : Mk} (hn : nameB m.nm = true) (h0 : -1000000 ≤ m.al ∧ m.al ≤ 1000000) (h1 : -1000000 ≤ m.ah ∧ m.ah ≤ 1000000) (h2 : -1000000 ≤ m.dl ∧ m.dl ≤ 1000000) (h3 : -1000000 ≤ m.dh ∧ m.dh ≤ 1000000) (ha : m.al ≤ m.ah) (hd : m.dl ≤ m.dh) (hl : 0 ≤ m.lv ∧ m.lv ≤ 1000000000) : markE m = 0 := by
  refine (firstE_zero _).2 fun e he => ?_
  simp only [List.mem_cons, List.not_mem_nil, or_false] at he
  rcases he with rfl | rfl | rfl | rfl
  · unfold unlessE; rw [hn]; rfl
  · unfold unlessE endsB wi; simp [h0, h1, h2, h3]
  · unfold unlessE ordB; simp [ha, hd]
  · unfold levelE unlessE wi; simp [hl]
theorem cell_ok {d0 d1 lv : Int} {c : Int × Int} {nm : ByteArray} (hc : inS c) (h0 : 1 ≤ d0 ∧ d0 ≤ 10000) (h1 : 1 ≤ d1 ∧ d1 ≤ 10000) (hn : nameB nm = true) (hl : 0 ≤ lv ∧ lv ≤ 1000000000) : markE (cellMk d0 d1 c nm lv) = 0 := by
  unfold inS at hc
  exact mark_ok hn (prod_sm (by omega) h0) (prod_sm (by omega) h0) (prod_sm (by omega) h1) (prod_sm (by omega) h1) (Int.mul_le_mul_of_nonneg_right (by omega) (by omega)) (Int.mul_le_mul_of_nonneg_right (by omega) (by omega)) hl
theorem cellsE_asc {cs : List (Int × Int)} (hp : 0 < cs.length) (hl : cs.length ≤ 4096) (ha : cs.Pairwise fun x y => befB x y = true) (hs : ∀ c ∈ cs, inS c) : cellsE cs = 0 := by
  refine cellsE_end hp hl fun j hj _ => ⟨?_, ?_⟩
  · have := hs _ (List.getElem_mem hj)
    unfold inS at this
    unfold inC wi
    simp; omega
  · unfold prevC
    split
    · rfl
    · rename_i h
      rw [List.getElem?_eq_getElem (show j - 1 < cs.length by omega)]
      have := List.pairwise_iff_getElem.1 ha (j - 1) j (by omega) hj (by omega)
      unfold clash
      simp [this]
theorem grid_ok {d0 d1 : Int} (h0 : 1 ≤ d0 ∧ d0 ≤ 10000) (h1 : 1 ≤ d1 ∧ d1 ≤ 10000) : gridE d0 d1 = 0 := by
  unfold gridE wi; simp [h0, h1]
/-- The mark of such an area has no error. -/
theorem markOfV_area {cs : List (Int × Int)} {d0 d1 lv : Int} {nm : ByteArray} (hp : 0 < cs.length) (hl : cs.length ≤ 4096) (ha : cs.Pairwise fun x y => befB x y = true) (hs : ∀ c ∈ cs, inS c) (h0 : 1 ≤ d0 ∧ d0 ≤ 10000) (h1 : 1 ≤ d1 ∧ d1 ≤ 10000) (hn : nameB nm = true) (hlv : 0 ≤ lv ∧ lv ≤ 1000000000) :
    markOfV cs d0 d1 nm lv = (spanM cs d0 d1 nm lv, 0) := by
  have e1 : firstE [cellsE cs, gridE d0 d1] = 0 := (firstE_zero _).2 fun e he => by
    simp only [List.mem_cons, List.not_mem_nil, or_false] at he
    rcases he with rfl | rfl
    · exact cellsE_asc hp hl ha hs
    · exact grid_ok h0 h1
  obtain ⟨p1, ⟨x0, hx0, q0⟩, x1, hx1, q1⟩ := spanP_has (a := 0) hp cs.length (Nat.le_refl _)
  obtain ⟨r1, ⟨y0, hy0, s0⟩, y1, hy1, s1⟩ := spanP_has (a := 1) hp cs.length (Nat.le_refl _)
  rw [List.take_length] at p1 r1
  have q0 : x0.1 = (spanP 0 cs cs.length).1 := q0
  have q1 : x1.1 = (spanP 0 cs cs.length).2 := q1
  have s0 : y0.2 = (spanP 1 cs cs.length).1 := s0
  have s1 : y1.2 = (spanP 1 cs cs.length).2 := s1
  have b0 := hs x0 hx0
  have b1 := hs x1 hx1
  have b2 := hs y0 hy0
  have b3 := hs y1 hy1
  have c0 := p1 x0 hx0
  have c1 := r1 y0 hy0
  unfold inS at b0 b1 b2 b3
  have e2 : markE (spanM cs d0 d1 nm lv) = 0 := by
    refine mark_ok hn ?_ ?_ ?_ ?_ ?_ ?_ hlv
    · exact prod_sm (by omega) h0
    · exact prod_sm (by omega) h0
    · exact prod_sm (by omega) h1
    · exact prod_sm (by omega) h1
    · exact Int.mul_le_mul_of_nonneg_right (by omega) (by omega)
    · exact Int.mul_le_mul_of_nonneg_right (by omega) (by omega)
  unfold markOfV
  rw [e1, if_neg (by simp), e2, if_neg (by simp)]
theorem markOfV_cell {c : Int × Int} {d0 d1 lv : Int} {nm : ByteArray} (hs : inS c) (h0 : 1 ≤ d0 ∧ d0 ≤ 10000) (h1 : 1 ≤ d1 ∧ d1 ≤ 10000) (hn : nameB nm = true) (hlv : 0 ≤ lv ∧ lv ≤ 1000000000) :
    markOfV [c] d0 d1 nm lv = (cellMk d0 d1 c nm lv, 0) := by
  rw [markOfV_area (by simp) (by simp) (by simp) (by simpa using hs) h0 h1 hn hlv, spanM_one]
/-- The marks of the first k cells. -/
def marksV (g : Int → Int → Int) (d0 d1 : Int) (C : List (Int × Int)) : List Mk := C.mapIdx fun i c => cellMk d0 d1 c (nmV i) (max 0 (g c.1 c.2))
theorem marksV_at (g : Int → Int → Int) (d0 d1 : Int) (C : List (Int × Int)) (i : Nat) (c : Int × Int) (h : C[i]? = some c) : (marksV g d0 d1 C)[i]? = some (cellMk d0 d1 c (nmV i) (max 0 (g c.1 c.2))) := by
  unfold marksV
  rw [List.getElem?_mapIdx, h]; rfl
theorem marksV_len (g : Int → Int → Int) (d0 d1 : Int) (C : List (Int × Int)) : (marksV g d0 d1 C).length = C.length := by simp [marksV]
theorem marksV_ms (g : Int → Int → Int) (d0 d1 : Int) (C : List (Int × Int)) : CellMs g d0 d1 C (marksV g d0 d1 C) := ⟨marksV_len .., fun i c h => ⟨_, marksV_at g d0 d1 C i c h⟩⟩
theorem marksV_snoc (g : Int → Int → Int) (d0 d1 : Int) (C : List (Int × Int)) (c : Int × Int) : marksV g d0 d1 (C ++ [c]) = marksV g d0 d1 C ++ [cellMk d0 d1 c (nmV C.length) (max 0 (g c.1 c.2))] := by
  simp [marksV, List.mapIdx_append]
theorem marksV_ok {g : Int → Int → Int} {d0 d1 : Int} {C : List (Int × Int)} (hn : C.length ≤ 20) (hs : ∀ c ∈ C, inS c) (hg : ∀ c ∈ C, g c.1 c.2 ≤ 1000000000) (h0 : 1 ≤ d0 ∧ d0 ≤ 10000) (h1 : 1 ≤ d1 ∧ d1 ≤ 10000) : marksE (marksV g d0 d1 C) = (0, 0) := by
  have hT : MarksTo (marksV g d0 d1 C) (marksV g d0 d1 C).length := fun j hj _ => by
    have hjc : j < C.length := by rw [marksV_len] at hj; exact hj
    have e : (marksV g d0 d1 C)[j] = cellMk d0 d1 C[j] (nmV j) (max 0 (g C[j].1 C[j].2)) := by
      have := marksV_at g d0 d1 C j C[j] (List.getElem?_eq_getElem hjc)
      rw [List.getElem?_eq_getElem hj] at this
      exact Option.some.inj this
    rw [e]
    refine ⟨cell_ok (hs _ (List.getElem_mem hjc)) h0 h1 (nmV_ok j (by omega)) (by have := hg _ (List.getElem_mem hjc); omega), ?_⟩
    rw [List.any_eq_false]
    intro p hp
    obtain ⟨i, hi, rfl⟩ := List.mem_take_iff_getElem.1 hp
    have hil : i < (marksV g d0 d1 C).length := by omega
    have hic : i < C.length := by rw [marksV_len] at hil; exact hil
    have e : (marksV g d0 d1 C)[i] = cellMk d0 d1 C[i] (nmV i) (max 0 (g C[i].1 C[i].2)) := by
      have := marksV_at g d0 d1 C i C[i] (List.getElem?_eq_getElem hic)
      rw [List.getElem?_eq_getElem hil] at this
      exact Option.some.inj this
    rw [e]
    have := nmV_apart j (by omega) i (by omega) (by omega)
    show ¬ sameB (nmV i) (nmV j) = true
    rw [this]; simp
  unfold marksE
  rw [if_neg (by rw [marksV_len]; omega), marksE'_to _ _ (Nat.le_refl _) hT, List.drop_length]
  rfl
end Go.Proofs.YtclpljbllnhhbaaGreat

namespace Go.Proofs.YtclpljbllnhhbaaGreat
open Go.RowKit

/-- Slots by their numbers. -/
def frA : List (Nat × Value) → Nat → Value
  | [], _ => undef
  | (i, v) :: l, k => bif Nat.beq i k then v else frA l k
def smB (s : Sc) : Bool := decide (s.data.length ≤ 36) && wi s.row (-90) 60 && wi s.col (-90) 60

set_option maxRecDepth 100000 in
set_option maxHeartbeats 8000000 in
theorem topLoop0 {l : List Sc} {A : Option Addr} {c B : Nat} {wr0 : World} (hR : Row wr0 B 5 A l.length (scsC l)) (hB : B ≤ wr0.heap.size) (hn : l.length ≤ 4) {t1 t2 t3 t4 t5 t8 t9 t10 t11 t12 t13 t14 t15 t16 t17 t18 t19 t20 t21 t22 t23 t24 t25 t26 t27 t28 t29 t30 t31 t32 t33 t34 t35 t36 t37 t38 t39 t40 t41 t42 t43 t44 t45 t46 t47 t48 t49 t50 t51 t52 t53 t54 t55 t56 t57 t58 t59 t60 t61 t62 t63 t64 t65 t66 t67 t68 t69 t70 t71 t72 t73 t74 t75 t76 t77 t78 t79 t80 t81 t82 t83 t84 t85 t86 t87 t88 t89 t90 t91 t92 t93 t94 t95 t96 t97 t98 t99 t100 t101 t102 t103 t104 t105 t106 t107 t108 t109 t110 t111 t112 t113 t114 t115 t116 t117 t118 t119 t120 t121 t122 t123 t124 t125 t126 t127 t128 t129 t130 t131 t132 t133 t134 t135 t136 t137 t138 t139 t140 t141 t142 t143 t144 t145 t146 t147 t148 t149 t150 t151 t152 t153 t154 t155 t156 t157 t158 t159 t160 t161 t162 t163 t164 t165 t166 t167 t168 t169 t170 t171 t172 t173 t174 t175 t176 t177 t178 t179 t180 t181 t182 t183 t184 t185 t186 t187 t188 t189 t190 t191 t192 t193 t194 t195 t196 t197 t198 t199 t200 t201 t202 t203 t204 t205 t206 t207 t208 t209 t210 t211 t212 t213 t214 t215 t216 t217 t218 t219 t220 t221 t222 t223 t224 t225 t226 t227 t228 t229 t230 t231 t232 t233 t234 t235 t236 t237 t238 t239 t240 t241 t242 t243 t244 t245 t246 t247 t248 t249 t250 t251 t252 t253 t254 t255 t256 t257 t258 t259 t260 t261 t262 t263 t264 : Value} {ds : List Deferred} (Q' : Exit → Act → World → Prop)
    (hret : ∀ (t7 t46 t47 t48 t49 t50 t51 t52 t53 t54 t55 t56 t57 t58 t59 t60 t61 t62 t63 t64 t65 t66 t67 t68 t69 t70 t71 t72 t73 t74 t75 t76 : Value) (w' : World), Gr wr0 w' → Q' .ret ⟨#[.slice A l.length c, t1, t2, t3, t4, t5, .bool true, t7, t8, t9, t10, t11, t12, t13, t14, t15, t16, t17, t18, t19, t20, t21, t22, t23, t24, t25, t26, t27, t28, t29, t30, t31, t32, t33, t34, t35, t36, t37, t38, t39, t40, t41, t42, t43, t44, t45, t46, t47, t48, t49, t50, t51, t52, t53, t54, t55, t56, t57, t58, t59, t60, t61, t62, t63, t64, t65, t66, t67, t68, t69, t70, t71, t72, t73, t74, t75, t76, t77, t78, t79, t80, t81, t82, t83, t84, t85, t86, t87, t88, t89, t90, t91, t92, t93, t94, t95, t96, t97, t98, t99, t100, t101, t102, t103, t104, t105, t106, t107, t108, t109, t110, t111, t112, t113, t114, t115, t116, t117, t118, t119, t120, t121, t122, t123, t124, t125, t126, t127, t128, t129, t130, t131, t132, t133, t134, t135, t136, t137, t138, t139, t140, t141, t142, t143, t144, t145, t146, t147, t148, t149, t150, t151, t152, t153, t154, t155, t156, t157, t158, t159, t160, t161, t162, t163, t164, t165, t166, t167, t168, t169, t170, t171, t172, t173, t174, t175, t176, t177, t178, t179, t180, t181, t182, t183, t184, t185, t186, t187, t188, t189, t190, t191, t192, t193, t194, t195, t196, t197, t198, t199, t200, t201, t202, t203, t204, t205, t206, t207, t208, t209, t210, t211, t212, t213, t214, t215, t216, t217, t218, t219, t220, t221, t222, t223, t224, t225, t226, t227, t228, t229, t230, t231, t232, t233, t234, t235, t236, t237, t238, t239, t240, t241, t242, t243, t244, t245, t246, t247, t248, t249, t250, t251, t252, t253, t254, t255, t256, t257, t258, t259, t260, t261, t262, t263, t264], ds⟩ w')
    (h : ∀ (t7 t46 t47 t48 t49 t50 t51 t52 t53 t54 t55 t56 t57 t58 t59 t60 t61 t62 t63 t64 t65 t66 t67 t68 t69 t70 t71 t72 t73 t74 t75 t76 : Value) (w' : World), (∀ s ∈ l, smB s = true) → Gr wr0 w' → Q' (.exit 0) ⟨#[.slice A l.length c, t1, t2, t3, t4, t5, .bool false, t7, t8, t9, t10, t11, t12, t13, t14, t15, t16, t17, t18, t19, t20, t21, t22, t23, t24, t25, t26, t27, t28, t29, t30, t31, t32, t33, t34, t35, t36, t37, t38, t39, t40, t41, t42, t43, t44, t45, t46, t47, t48, t49, t50, t51, t52, t53, t54, t55, t56, t57, t58, t59, t60, t61, t62, t63, t64, t65, t66, t67, t68, t69, t70, t71, t72, t73, t74, t75, t76, t77, t78, t79, t80, t81, t82, t83, t84, t85, t86, t87, t88, t89, t90, t91, t92, t93, t94, t95, t96, t97, t98, t99, t100, t101, t102, t103, t104, t105, t106, t107, t108, t109, t110, t111, t112, t113, t114, t115, t116, t117, t118, t119, t120, t121, t122, t123, t124, t125, t126, t127, t128, t129, t130, t131, t132, t133, t134, t135, t136, t137, t138, t139, t140, t141, t142, t143, t144, t145, t146, t147, t148, t149, t150, t151, t152, t153, t154, t155, t156, t157, t158, t159, t160, t161, t162, t163, t164, t165, t166, t167, t168, t169, t170, t171, t172, t173, t174, t175, t176, t177, t178, t179, t180, t181, t182, t183, t184, t185, t186, t187, t188, t189, t190, t191, t192, t193, t194, t195, t196, t197, t198, t199, t200, t201, t202, t203, t204, t205, t206, t207, t208, t209, t210, t211, t212, t213, t214, t215, t216, t217, t218, t219, t220, t221, t222, t223, t224, t225, t226, t227, t228, t229, t230, t231, t232, t233, t234, t235, t236, t237, t238, t239, t240, t241, t242, t243, t244, t245, t246, t247, t248, t249, t250, t251, t252, t253, t254, t255, t256, t257, t258, t259, t260, t261, t262, t263, t264], ds⟩ w') :
    (Code.loop (bodyOf Tryz.f3 0)).wp Tryz.prog Q' ⟨#[.slice A l.length c, t1, t2, t3, t4, t5, .bool false, .int .i64 0, t8, t9, t10, t11, t12, t13, t14, t15, t16, t17, t18, t19, t20, t21, t22, t23, t24, t25, t26, t27, t28, t29, t30, t31, t32, t33, t34, t35, t36, t37, t38, t39, t40, t41, t42, t43, t44, t45, t46, t47, t48, t49, t50, t51, t52, t53, t54, t55, t56, t57, t58, t59, t60, t61, t62, t63, t64, t65, t66, t67, t68, t69, t70, t71, t72, t73, t74, t75, t76, t77, t78, t79, t80, t81, t82, t83, t84, t85, t86, t87, t88, t89, t90, t91, t92, t93, t94, t95, t96, t97, t98, t99, t100, t101, t102, t103, t104, t105, t106, t107, t108, t109, t110, t111, t112, t113, t114, t115, t116, t117, t118, t119, t120, t121, t122, t123, t124, t125, t126, t127, t128, t129, t130, t131, t132, t133, t134, t135, t136, t137, t138, t139, t140, t141, t142, t143, t144, t145, t146, t147, t148, t149, t150, t151, t152, t153, t154, t155, t156, t157, t158, t159, t160, t161, t162, t163, t164, t165, t166, t167, t168, t169, t170, t171, t172, t173, t174, t175, t176, t177, t178, t179, t180, t181, t182, t183, t184, t185, t186, t187, t188, t189, t190, t191, t192, t193, t194, t195, t196, t197, t198, t199, t200, t201, t202, t203, t204, t205, t206, t207, t208, t209, t210, t211, t212, t213, t214, t215, t216, t217, t218, t219, t220, t221, t222, t223, t224, t225, t226, t227, t228, t229, t230, t231, t232, t233, t234, t235, t236, t237, t238, t239, t240, t241, t242, t243, t244, t245, t246, t247, t248, t249, t250, t251, t252, t253, t254, t255, t256, t257, t258, t259, t260, t261, t262, t263, t264], ds⟩ wr0 := by
  have H := Lib.hid h; clear h
  have HR := Lib.hid hret; clear hret
  conv in (bodyOf _ _) => whnf
  dsimp only
  go_loopw [6, 7] (fun s6 s7 wr => ∃ k : Nat, k ≤ l.length ∧ s6 = .bool false ∧ s7 = .int .i64 k ∧ Hid (∀ j (h : j < l.length), j < k → smB l[j] = true) ∧ Gr wr0 wr) (fun _ s7 _ => l.length - (intOf s7).toNat)
  case atStart => exact ⟨0, Nat.zero_le _, rfl, rfl, Lib.hid (fun j _ h => absurd h (by omega)), Gr.refl _⟩
  case round =>
    obtain ⟨k, hk, rfl, rfl, HI, hg⟩ := hrel
    have hzg := Below.size hg
    by_cases hlt : k < l.length
    · obtain ⟨g, o, hA, hgB, e0, e1, _, _, e4⟩ := scCells (hR.below hg hB) hlt
      have hgw : g < wr.heap.size := by omega
      have i1 : ((k : Int) < (l.length : Int)) := by omega
      have HY : Hid (smB l[k] = true → ∀ j (h : j < l.length), j < k + 1 → smB l[j] = true) := Lib.hid (fun h j hj hjk => by
        by_cases e : j = k
        · subst e; exact h
        · exact HI.out j hj (by omega))
      have HZ : Hid (smB l[k] = (decide (l[k].data.length ≤ 36) && wi l[k].row (-90) 60 && wi l[k].col (-90) 60)) := Lib.hid rfl
      generalize l[k].data.length = d at *
      generalize l[k].dA = dA at *
      generalize l[k].dcap = dc at *
      generalize l[k].row = r at *
      generalize l[k].col = cc at *
      subst hA
      by_cases hd : (36 : Int) < (d : Int)
      · clear HY HZ
        go_wp2
        exact HR.out _ _ _ _ _ _ _ _ _ _ _ _ _ _ _ _ _ _ _ _ _ _ _ _ _ _ _ _ _ _ _ _ wr hg
      cases h1 : wi r (-90) 60
      · clear HY HZ
        go_wp2_with (go_at_call 7; refine (bWithin_any _ _ _ _).mono ?_; rintro e w1 ⟨rfl, rfl⟩)
        exact HR.out _ _ _ _ _ _ _ _ _ _ _ _ _ _ _ _ _ _ _ _ _ _ _ _ _ _ _ _ _ _ _ _ wr hg
      cases h2 : wi cc (-90) 60
      · clear HY HZ
        go_wp2_with (go_at_call 7; refine (bWithin_any _ _ _ _).mono ?_; rintro e w1 ⟨rfl, rfl⟩)
        exact HR.out _ _ _ _ _ _ _ _ _ _ _ _ _ _ _ _ _ _ _ _ _ _ _ _ _ _ _ _ _ _ _ _ wr hg
      have HI2 := Lib.hid (HY.out (by rw [HZ.out, h1, h2]; simp; omega))
      clear HY HZ
      go_wp2_with (go_at_call 7; refine (bWithin_any _ _ _ _).mono ?_; rintro e w1 ⟨rfl, rfl⟩)
      exact ⟨⟨k + 1, by omega, rfl, by go_num, HI2, hg⟩, by simp [intOf]; omega⟩
    · obtain rfl : k = l.length := by omega
      go_wp2
      refine H.out _ _ _ _ _ _ _ _ _ _ _ _ _ _ _ _ _ _ _ _ _ _ _ _ _ _ _ _ _ _ _ _ wr (fun s hs => ?_) hg
      obtain ⟨j, hj, rfl⟩ := List.getElem_of_mem hs
      exact HI.out j hj hj
end Go.Proofs.YtclpljbllnhhbaaGreat
