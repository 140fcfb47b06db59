/- Grouped: the rows of numbers are sorted by their first numbers. -/
import Derived.Test.YtidgeagpgllkeaaGreatFcK
import Derived.Test.YtidgeagpgllkeaaGreatFaO
namespace Go.Proofs.YtidgeagpgllkeaaGreat
open Go.RowKit Go.Sort Go.Shelf

/-- A row of numbers. -/
structure Rw where
  b : Nat
  cap : Nat
  ns : List Int
def rwV (q : Rw) : Value := .slice (some ⟨q.b, 0, none⟩) q.ns.length q.cap
def hd (q : Rw) : Int := q.ns.headD 0
def RwIn (W : World) (g : Nat) (q : Rw) : Prop := q.b < W.heap.size ∧ q.b ≠ g ∧ 0 < q.ns.length ∧ W.cell? ⟨q.b, 0, none⟩ = some (.int .i64 (hd q))

set_option maxHeartbeats 1000000 in
theorem cmpHead_any (b1 b2 n1 n2 c1 c2 : Nat) (x y : Int) (W : World) (h1 : 0 < n1) (h2 : 0 < n2) (k1 : W.cell? ⟨b1, 0, none⟩ = some (.int .i64 x)) (k2 : W.cell? ⟨b2, 0, none⟩ = some (.int .i64 y)) :
    Calls Tryz.prog 108 #[.slice (some ⟨b1, 0, none⟩) n1 c1, .slice (some ⟨b2, 0, none⟩) n2 c2] W fun e w' => e = .returned (.int .i64 (Lib.compareInt x y)) ∧ ∃ q os, w' = Sort.grow (W.drewN q) os := by
  have i1 : (0 : Int) < (n1 : Int) := by omega
  have i2 : (0 : Int) < (n2 : Int) := by omega
  go_enter Tryz.func108, Tryz.ntmps108
  go_wp2_with fail
  refine wp_region_text 7 (fun w' => ∃ q, w' = W.drewN q) (by kernel_rfl) (by kernel_rfl) ⟨1, rfl⟩ ?_
  simp only [List.take, List.drop]
  repeat (first
    | (apply StepsD.run
       · go_simp
         done
       · rintro w' ⟨q, rfl⟩ K hK
         go_simp
         first
           | exact hK _ ⟨q, rfl⟩
           | ((go_at_call 109); refine (Tryz.cmp_Compare_int x y _).mono ?_; rintro e w1 ⟨rfl, rfl⟩; exact hK _ ⟨q, rfl⟩)
       · simp [Act.put]
         done))
  refine StepsD.done ?_
  rintro w' ⟨q, rfl⟩
  go_wp2
  go_ret
  exact ⟨rfl, q, #[], by rw [Sort.grow_empty]⟩

theorem heap_sortedE {α : Type} [Inhabited α] (enc : α → Value) {w : World} {g n : Nat} {os : Array Obj} {cur : Array Value} {e : TypeId} {fr : Nat × Nat} (d : Array α) (hb : w.heap[g]? = some (.cells cur e fr)) :
    (grow (putRow enc (Sort.ahead w n) g 0 d) os).heap[g]? = some (.cells (putCells enc 0 d cur) e fr) := by
  have hg : g < w.heap.size := (Array.getElem?_eq_some_iff.1 hb).1
  rw [heap_grow_old _ _ (by simpa using hg)]
  simp [putRow, mapBlock, Sort.ahead, Array.getElem?_modify, hb, onCells]
theorem grownBy_sortedE {α : Type} [Inhabited α] (enc : α → Value) {w : World} {g n : Nat} {os : Array Obj} (d : Array α) : w.grownBy (grow (putRow enc (Sort.ahead w n) g 0 d) os) (some g) := by
  refine ⟨rfl, rfl, rfl, by simp, fun k hk hne => ?_⟩
  rw [heap_grow_old _ _ (by simpa using hk)]
  have : g ≠ k := fun e => hne (by rw [e])
  simp [putRow, mapBlock, Sort.ahead, Array.getElem?_modify, this]
theorem take_putCellsE {α : Type} [Inhabited α] (enc : α → Value) (cur : Array Value) (ts : Array α) (h : ts.size ≤ cur.size) : (putCells enc 0 ts cur).toList.take ts.size = ts.toList.map enc := by
  apply List.ext_getElem?
  intro j
  by_cases hj : j < ts.size
  · rw [List.getElem?_take_of_lt hj, Array.getElem?_toList]
    simp [putCells, hj, show j < cur.size by omega]
  · rw [List.getElem?_take_eq_none (by omega), List.getElem?_eq_none (by simp; omega)]

abbrev Rs (W : World) (g : Nat) := { q : Rw // RwIn W g q }
def cfR (W : World) (g : Nat) (x y : Rs W g) : Int := Lib.compareInt (hd x.1) (hd y.1)
theorem ltR (W : World) (g : Nat) (x y : Rs W g) : ltOf (cfR W g) x y = decide (hd x.1 < hd y.1) := by
  unfold ltOf cfR
  rw [compareInt_eq]
  by_cases h1 : hd x.1 < hd y.1
  · simp [h1]
  · by_cases h2 : hd y.1 < hd x.1 <;> simp [h1, h2]
theorem swoR (W : World) (g : Nat) : SWO (ltOf (cfR W g)) where
  irrefl x := by rw [ltR]; simp
  trans x y z h1 h2 := by
    rw [ltR] at *
    simp only [decide_eq_true_eq] at *
    omega
  ntrans x y z h1 h2 := by
    rw [ltR] at *
    simp only [decide_eq_false_iff_not] at *
    omega
theorem encR_one (W : World) (g : Nat) : OneCell (fun q : Rs W g => rwV q.1) := fun _ => rfl

/-- Behind the sort the same slice owns the rows, by their first numbers. -/
theorem sortRows_any (base g cap : Nat) (D : List Rw) (w : World) (h : w.ownsRow base 37 1 (.slice (some ⟨g, 0, none⟩) D.length cap) D.length (D.map rwV)) (hD : ∀ q ∈ D, RwIn w g q) (hl : D.length ≤ 1000000) (hne : 0 < D.length) :
    Calls Tryz.prog 107 #[.slice (some ⟨g, 0, none⟩) D.length cap, .func (.func 108) #[] #[]] w fun e w' => e = .returned (.tuple #[]) ∧
      ∃ Ds : List Rw, Ds.Perm D ∧ Ds.Pairwise (fun x y => hd x ≤ hd y) ∧ w'.ownsRow base 37 1 (.slice (some ⟨g, 0, none⟩) D.length cap) D.length (Ds.map rwV) ∧ w.grownBy w' (some g) := by
  have eg : ∀ args w, (callFunc 108 args).run Tryz.prog w = .ok (.enter 108 args) w := enters_of Tryz.func108 (by kernel_rfl) rfl
  obtain ⟨g', cap', cur, hv, hbase, hb, hnc, hcap, hcur, htake⟩ : ∃ g' cap' cur, Value.slice (some ⟨g, 0, none⟩) D.length cap = .slice (some ⟨g', 0, none⟩) D.length cap' ∧ base ≤ g' ∧ w.heap[g']? = some (.cells cur 37 (0, 0)) ∧ D.length ≤ cap' ∧ cap' ≤ maxLen ∧ cur.size = cap' * 1 ∧ cur.toList.take (D.length * 1) = D.map rwV := by
    rcases h.2 with ⟨h0, _⟩ | h0
    · cases h0
    · exact h0
  cases hv
  have hlt : g < w.heap.size := (Array.getElem?_eq_some_iff.1 hb).1
  obtain ⟨q0, hq0⟩ : ∃ q, q ∈ D := ⟨D[0], List.getElem_mem hne⟩
  haveI : Inhabited (Rs w g) := ⟨⟨q0, hD q0 hq0⟩⟩
  obtain ⟨d, hdd⟩ : ∃ d : List (Rs w g), d = D.attach.map (fun q => ⟨q.1, hD q.1 q.2⟩) := ⟨_, rfl⟩
  have hdv : d.map (fun q => q.1) = D := by rw [hdd, List.map_map]; exact List.attach_map_subtype_val D
  have hdl : d.length = D.length := by rw [← hdv]; simp
  have hlay : CmpLays1 Tryz.prog 108 #[] (fun q : Rs w g => rwV q.1) (cfR w g) g 0 d.toArray.size w := by
    intro m os dk _ x y
    have hc : ∀ q : Rs w g, (sortWorld (fun q : Rs w g => rwV q.1) w g 0 m dk os).cell? ⟨q.1.b, 0, none⟩ = some (.int .i64 (hd q.1)) := fun q => by
      have hk := (grownBy_sortedE (fun q : Rs w g => rwV q.1) (w := w) (g := g) (n := m) (os := os) dk).block q.1.b q.2.1 (fun e => q.2.2.1 (by simpa using e))
      exact (World.cell?_of_block hk).trans q.2.2.2.2
    exact cmpHead_any x.1.b y.1.b x.1.ns.length y.1.ns.length x.1.cap y.1.cap _ _ _ x.2.2.2.1 y.2.2.2.1 (hc x) (hc y)
  have hH : Holds (fun q : Rs w g => rwV q.1) w g 0 d.toArray := by
    intro j hj
    have hj' : j < D.length := by simpa [hdl] using hj
    refine ⟨?_, by have := h.frozenAt j; simpa using this⟩
    rw [Nat.zero_add, h.cellAt j (by omega), getElem!_pos _ j hj, ← hdv, List.map_map, List.getElem?_map, List.getElem?_eq_getElem (by simpa using hj)]
    simp
  have hcon := Tryz.slices_SortFunc_f107 (fun q : Rs w g => rwV q.1) (encR_one w g) (cfR w g) (swoR w g) 108 #[] g 0 cap d.toArray w eg hlay hH hlt (by simp; omega)
  simp only [List.size_toArray, hdl] at hcon
  refine Calls.mono hcon ?_
  rintro e w' ⟨he, d', n, os, hp, hsrt, hw⟩
  have hs' : d'.size = D.length := by rw [hp.1]; simpa using hdl
  have hperm : d'.toList.Perm d := by
    have h3 := hp.2.2
    rw [show d'.extract 0 D.length = d' by rw [← hs']; simp, show d.toArray.extract 0 D.length = d.toArray by rw [← hdl]; simp] at h3
    simpa using h3
  refine ⟨he, d'.toList.map (fun q => q.1), ?_, ?_, ?_, ?_⟩
  · rw [← hdv]; exact hperm.map _
  · rw [List.pairwise_map, List.pairwise_iff_getElem]
    intro i j hi hj hij
    have h4 := hsrt i j (Nat.zero_le _) hij (by simpa [hs'] using hj)
    rw [ltR, getElem!_pos _ i (by simpa using hi), getElem!_pos _ j (by simpa using hj)] at h4
    simp only [decide_eq_false_iff_not] at h4
    simp only [Array.getElem_toList]
    omega
  · subst hw
    refine ⟨by simp [hs'], .inr ⟨g, cap, _, rfl, hbase, heap_sortedE _ _ hb, hnc, hcap, by simp [putCells, hcur], ?_⟩⟩
    rw [Nat.mul_one, ← hs', take_putCellsE _ _ _ (by rw [hs', hcur]; omega), List.map_map]; rfl
  · subst hw
    exact grownBy_sortedE _ _
end Go.Proofs.YtidgeagpgllkeaaGreat
