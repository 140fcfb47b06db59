/- Contracts: the code's groups where the marks or the rule are not right; the reference's groups. -/
import Derived.Test.YtidgeagpgllkeaaGreatFhB
import Derived.Test.YtidgeagpgllkeaaGreatFfD
import Derived.Test.YtidgeagpgllkeaaGreatFfB
namespace Go.Proofs.YtidgeagpgllkeaaGreat
open Go.RowKit Go.Shelf

set_option maxRecDepth 100000 in
set_option maxHeartbeats 4000000 in
theorem grouped_bad (l : List Mk) (A : Option Addr) (c B : Nat) (r : Ru) (w : World) (hl : MkOk l A B w) (hcap : l.length ≤ c) (hB : B ≤ w.heap.size) (hn : W64 r.num) (hd' : W64 r.den) (he : groupedE l r ≠ 0) :
    Calls Tryz.prog 36 #[.slice A l.length c, .agg (ruC r)] w fun e w' => e = .returned (.tuple #[.slice none 0 0, .int .i64 (groupedE l r)]) ∧ Below w.heap.size w w' := by
  have HE : Hid (firstE [(marksE l).2, ruleE r] = groupedE l r) := Lib.hid rfl
  obtain ⟨E, hE⟩ : ∃ E, groupedE l r = E := ⟨_, rfl⟩
  rw [hE] at HE he ⊢
  clear hE
  have b3 := Blk.new w 62 (ruC r)
  have hBB : Below w.heap.size w (w.alloc (.cells (ruC r) 62)) := (by repeat (first | (with_reducible exact Below.refl _ _) | (with_reducible assumption) | ((with_reducible refine Below.setCell ?_ ?_ _); rotate_left; · (first | exact Nat.le_refl _ | (simp; done) | (simp; omega) | omega)) | ((with_reducible refine Below.alloc ?_ ?_ _); rotate_left; · (first | exact Nat.le_refl _ | (simp; done) | (simp; omega) | omega)) | (with_reducible apply Below.drew) | (with_reducible apply below_drewN') | (refine Below.trans ?_ (Below.mono (by assumption) (by first | exact Nat.le_refl _ | (simp; done) | (simp; omega) | omega))) | exact Below.refl _ _ | assumption))
  go_enter Tryz.func36, Tryz.ntmps36
  go_wp2_with fail
  obtain ⟨W, hW⟩ : ∃ W, w.alloc (.cells (ruC r) 62) = W := ⟨_, rfl⟩
  rw [hW] at b3 hBB ⊢
  have hzW : w.heap.size < W.heap.size := b3.lt
  clear hW
  have hlW := Lib.hid (hl.below hBB hB)
  have l_b3 := b3.lt
  obtain ⟨c0, c1, c2, c3, f3⟩ := blk4 b3
  refine wp_region_b 4 (by kernel_rfl) (by kernel_rfl) ?_; simp only [List.take, List.drop]
  repeat (first
    | (apply StepsD.run
       · go_simp
         done
       · intro w' hS K hK
         have hc := (bcell hS).1
         have hf := (bcell hS).2
         have hz := hS.size
         try simp at hz
         go_simp
         try go_bits
         first
           | exact hK _ hS
           | (go_at_call 99; (with_reducible refine (listErr_any l A c B _ (hlW.out.below hS (by omega)) hcap (by omega) |>.mono ?_)); rintro e w1 ⟨rfl, hB1⟩; obtain ⟨hc1, hf1⟩ := bcell hB1; have hz1 := hB1.size; (try simp at hz1); exact hK _ (Below.trans hS (Below.mono hB1 (by first | exact Nat.le_refl _ | (simp; done) | (simp; omega) | omega))))
           | (go_at_call 69; (with_reducible refine (checkRule_any r hn hd' _).mono ?_); rintro e w1 ⟨rfl, hB1⟩; obtain ⟨hc1, hf1⟩ := bcell hB1; have hz1 := hB1.size; (try simp at hz1); exact hK _ (Below.trans hS (Below.mono hB1 (by first | exact Nat.le_refl _ | (simp; done) | (simp; omega) | omega))))
           | exact hK _ (by repeat (first | (with_reducible exact Below.refl _ _) | (with_reducible assumption) | ((with_reducible refine Below.setCell ?_ ?_ _); rotate_left; · (first | exact Nat.le_refl _ | (simp; done) | (simp; omega) | omega)) | ((with_reducible refine Below.alloc ?_ ?_ _); rotate_left; · (first | exact Nat.le_refl _ | (simp; done) | (simp; omega) | omega)) | (with_reducible apply Below.drew) | (with_reducible apply below_drewN') | (refine Below.trans ?_ (Below.mono (by assumption) (by first | exact Nat.le_refl _ | (simp; done) | (simp; omega) | omega))) | exact Below.refl _ _ | assumption))
       · simp [Act.put]
         done)
    | (apply StepsD.pass
       · go_simp
         done
       · simp only [Act.put, List.setIfInBounds_toArray, List.set_cons_succ, List.set_cons_zero]
         rfl))
  refine StepsD.done ?_
  intro w1 hS
  replace b3 := b3.gr hS
  replace hBB := hBB.trans (Below.mono hS (Below.size hBB))
  clear hS
  clear l_b3 c0 c1 c2 c3 f3
  have l_b3 := b3.lt
  obtain ⟨c0, c1, c2, c3, f3⟩ := blk4 b3
  go_wp2_with fail
  refine (first2_any _ _ _ _).mono ?_
  rw [HE.out]
  rintro e wc1 ⟨rfl, hBc1⟩
  replace b3 := b3.gr hBc1
  replace hBB := hBB.trans (Below.mono hBc1 (Below.size hBB))
  clear hBc1
  clear l_b3 c0 c1 c2 c3 f3
  have l_b3 := b3.lt
  obtain ⟨c0, c1, c2, c3, f3⟩ := blk4 b3
  have he' : (E != 0) = true := by simpa using he
  go_wp2
  go_ret2
  exact ⟨rfl, hBB⟩

theorem MkS.hullR {l : List Mk} (hm : ∀ m ∈ l, MkS m) {g : List Int} (hp : g ≠ []) (hb : ∀ i ∈ g, 0 ≤ i ∧ i < l.length) : MkS (Proofs.YtidgeagpgllkeaaGreat.hullR l g) := by
  cases g with
  | nil => exact absurd rfl hp
  | cons i t =>
    have hi := hb i (by simp)
    have e : l[i.toNat]? = some (l[i.toNat]'(by omega)) := List.getElem?_eq_getElem _
    unfold Proofs.YtidgeagpgllkeaaGreat.hullR
    dsimp only
    rw [e]
    have h0 : MkS (l[i.toNat]'(by omega)) := hm _ (List.getElem_mem _)
    show MkS (t.foldl (fun o j => hullV o (l[j.toNat]?.getD o)) (l[i.toNat]'(by omega)))
    have key : ∀ (t : List Int) (o : Mk), MkS o → (∀ i ∈ t, 0 ≤ i ∧ i < l.length) → MkS (t.foldl (fun o j => hullV o (l[j.toNat]?.getD o)) o) := by
      intro t
      induction t with
      | nil => intro o h _; exact h
      | cons j t ih =>
        intro o h hb
        have hj := hb j (by simp)
        simp only [List.foldl_cons]
        have e : l[j.toNat]? = some (l[j.toNat]'(by omega)) := List.getElem?_eq_getElem _
        rw [e]
        exact ih _ (h.hull (hm _ (List.getElem_mem _))) fun i hi => hb i (List.mem_cons_of_mem _ hi)
    exact key t _ h0 fun j hj => hb j (List.mem_cons_of_mem _ hj)
def bval : Value → Nat
  | .bool true => 1
  | _ => 0
/-- The groups in memory. -/
structure GrM (w : World) (l : List Mk) (r : Ru) (v : Value) (D : List Rw) (W : World) : Prop where
  own : W.ownsRow w.heap.size 37 1 v D.length (D.map rwV)
  each : ∀ q ∈ D, W.ownsRow w.heap.size 3 1 (rwV q) q.ns.length (intsC q.ns)
  ri : RI l r (D.map (·.ns))
  below : Below w.heap.size w W
section
variable {w : World} {l : List Mk} {r : Ru} {v : Value} {D : List Rw} {W W' : World}
theorem GrM.gr (h : GrM w l r v D W) (hb : Gr W W') : GrM w l r v D W' :=
  ⟨own_below h.own hb, fun q hq => own_below (h.each q hq) hb, h.ri, h.below.trans (hb.mono (Below.size h.below))⟩
theorem GrM.len (h : GrM w l r v D W) : D.length ≤ l.length := by
  have hp := h.ri.canon.perm.length_eq
  have hl : (numsTo l.length).length = l.length := by simp [numsTo]
  have key : ∀ L : List (List Int), (∀ g ∈ L, g ≠ []) → L.length ≤ L.flatten.length := by
    intro L
    induction L with
    | nil => intro _; simp
    | cons g L ih =>
      intro hg
      have := ih fun g h => hg g (List.mem_cons_of_mem _ h)
      have h1 : 0 < g.length := List.length_pos_iff.2 (hg g (by simp))
      rw [List.flatten_cons, List.length_append, List.length_cons]; omega
  have := key _ h.ri.canon.pos
  rw [hp, hl] at this
  simpa using this
theorem GrM.ns (h : GrM w l r v D W) {q : Rw} (hq : q ∈ D) : q.ns ≠ [] ∧ ∀ i ∈ q.ns, 0 ≤ i ∧ i < (l.length : Int) := by
  have hm : q.ns ∈ D.map (·.ns) := List.mem_map_of_mem hq
  exact ⟨h.ri.canon.pos _ hm, h.ri.bd hm⟩
theorem GrM.short (h : GrM w l r v D W) {q : Rw} (hq : q ∈ D) : q.ns.length ≤ l.length := by
  have hm : q.ns ∈ D.map (·.ns) := List.mem_map_of_mem hq
  have hp := h.ri.canon.perm.length_eq
  have hl : (numsTo l.length).length = l.length := by simp [numsTo]
  have key : ∀ (L : List (List Int)) (g : List Int), g ∈ L → g.length ≤ L.flatten.length := by
    intro L g
    induction L with
    | nil => intro h; cases h
    | cons a L ih =>
      intro h
      rw [List.flatten_cons, List.length_append]
      rcases List.mem_cons.1 h with rfl | h
      · omega
      · have := ih h; omega
  have := key _ _ hm
  omega
theorem GrM.rw (h : GrM w l r v D W) : ∃ A c, v = .slice A D.length c ∧ RwOk D A W.heap.size W := by
  obtain ⟨A, c, rfl, hR, _, _⟩ := own_row2 h.own
  refine ⟨A, c, rfl, hR, fun q hq => ?_, fun q hq => ?_⟩
  · have := h.each q hq
    obtain ⟨A', c', e, hR', _, _⟩ := own_row2 this
    unfold rwV at e
    injection e with e1 e2 e3
    subst e1
    exact hR'
  · have := h.each q hq
    obtain ⟨A', c', e, _, hc, _⟩ := own_row2 this
    unfold rwV at e
    injection e with e1 e2 e3
    omega
end

/-- The k-th group's hull; none of the first i groups interacts with one behind it. -/
def hullA (l : List Mk) (D : List Rw) (k : Nat) : Mk := hullR l (((D.map (·.ns))[k]?).getD [])
def PairTo (l : List Mk) (r : Ru) (D : List Rw) (i k : Nat) : Prop := ∀ b, i < b → b < k → b < D.length → interactV (hullA l D i) (hullA l D b) r = false
def PairsTo (l : List Mk) (r : Ru) (D : List Rw) (i : Nat) : Prop := ∀ a, a < i → PairTo l r D a D.length
theorem PairsTo.zero {l : List Mk} {r : Ru} {D : List Rw} : PairsTo l r D 0 := fun a h => by omega
theorem PairTo.zero {l : List Mk} {r : Ru} {D : List Rw} {i : Nat} : PairTo l r D i (i + 1) := fun b h h' => by omega
theorem PairsTo.step {l : List Mk} {r : Ru} {D : List Rw} {i : Nat} (h : PairsTo l r D i) (h' : PairTo l r D i D.length) : PairsTo l r D (i + 1) := fun a ha => by
  by_cases e : a = i
  · subst e; exact h'
  · exact h a (by omega)
theorem PairTo.step {l : List Mk} {r : Ru} {D : List Rw} {i k : Nat} (h : PairTo l r D i k) (h' : interactV (hullA l D i) (hullA l D k) r = false) : PairTo l r D i (k + 1) := fun b hb hbk hbl => by
  by_cases e : b = k
  · subst e; exact h'
  · exact h b hb (by omega) hbl
theorem PairsTo.all {l : List Mk} {r : Ru} {D : List Rw} (h : PairsTo l r D D.length) : ∀ i k, i < k → k < (D.map (·.ns)).length → interactV (hullR l (((D.map (·.ns))[i]?).getD [])) (hullR l (((D.map (·.ns))[k]?).getD [])) r = false := fun i k hik hk => by
  rw [List.length_map] at hk
  exact h i (by omega) k hik hk hk

set_option maxRecDepth 100000 in
set_option maxHeartbeats 4000000 in
theorem refGrouped_any (l : List Mk) (A : Option Addr) (c B : Nat) (r : Ru) (w : World) (hl : MkOk l A B w) (hB : B ≤ w.heap.size) (hl20 : l.length ≤ 20) (hms : Hid (∀ m ∈ l, MkS m)) (hr : RuS r) :
    Calls Tryz.prog 41 #[.slice A l.length c, .agg (ruC r)] w fun e w' => ∃ (v : Value) (D : List Rw), e = .returned v ∧ ResG l r (D.map (·.ns)) ∧ w'.ownsRow w.heap.size 37 1 v D.length (D.map rwV) ∧ (∀ q ∈ D, w'.ownsRow w.heap.size 3 1 (rwV q) q.ns.length (intsC q.ns)) ∧ Below w.heap.size w w' := by
  have b3 := Blk.new w 62 (ruC r)
  have hBB : Below w.heap.size w (w.alloc (.cells (ruC r) 62)) := (by repeat (first | (with_reducible exact Below.refl _ _) | (with_reducible assumption) | ((with_reducible refine Below.setCell ?_ ?_ _); rotate_left; · (first | exact Nat.le_refl _ | (simp; done) | (simp; omega) | omega)) | ((with_reducible refine Below.alloc ?_ ?_ _); rotate_left; · (first | exact Nat.le_refl _ | (simp; done) | (simp; omega) | omega)) | (with_reducible apply Below.drew) | (with_reducible apply below_drewN') | (refine Below.trans ?_ (Below.mono (by assumption) (by first | exact Nat.le_refl _ | (simp; done) | (simp; omega) | omega))) | exact Below.refl _ _ | assumption))
  obtain ⟨i0, hi0, hz0, hz1, hz2⟩ := info_parts infoSl
  go_enter Tryz.func41, Tryz.ntmps41
  go_wp2
  generalize w.alloc (.cells (ruC r) 62) = W at *
  go_loopw [5, 6] (fun s5 s6 wr => ∃ (k : Nat) (D : List Rw) (v : Value), k ≤ l.length ∧ s5 = v ∧ s6 = .int .i64 k ∧ Hid (D.map (·.ns) = (numsTo k).map fun i => [i]) ∧ Blk wr w.heap.size 62 (ruC r) ∧ wr.ownsRow w.heap.size 37 1 v D.length (D.map rwV) ∧ (∀ q ∈ D, wr.ownsRow w.heap.size 3 1 (rwV q) q.ns.length (intsC q.ns)) ∧ Below w.heap.size w wr) (fun _ s6 _ => l.length - (intOf s6).toNat)
  case atStart => exact ⟨0, [], _, Nat.zero_le _, rfl, rfl, Lib.hid (by simp [numsTo]), b3, World.ownsRow_nil _ _ _ _, by simp, hBB⟩
  case round =>
    clear b3 hBB
    obtain ⟨k, D, v, hk, rfl, rfl, HD, b3, hown, heach, hBB⟩ := hrel
    by_cases hlt : k < l.length
    · have hDl : D.length = k := by have := congrArg List.length HD.out; simpa [numsTo] using this
      have hzB := Below.size hBB
      have hg1 : Gr wr (wr.alloc (.cells #[.int .i64 k] 3)) := show Below wr.heap.size wr _ from (by repeat (first | (with_reducible exact Below.refl _ _) | (with_reducible assumption) | ((with_reducible refine Below.setCell ?_ ?_ _); rotate_left; · (first | exact Nat.le_refl _ | (simp; done) | (simp; omega) | omega)) | ((with_reducible refine Below.alloc ?_ ?_ _); rotate_left; · (first | exact Nat.le_refl _ | (simp; done) | (simp; omega) | omega)) | (with_reducible apply Below.drew) | (with_reducible apply below_drewN') | (refine Below.trans ?_ (Below.mono (by assumption) (by first | exact Nat.le_refl _ | (simp; done) | (simp; omega) | omega))) | exact Below.refl _ _ | assumption))
      have hrow1 := World.ownsRow_lit (base := w.heap.size) (e := 3) (size := 1) wr #[.int .i64 k] 1 hzB (by unfold maxLen; omega) (by simp)
      have hown1 := own_below hown hg1
      have hOo := hown1.alloc (.cells #[.slice (some ⟨wr.heap.size, 0, none⟩) 1 1] 37)
      have hcell := cell_one_new (wr.alloc (.cells #[.int .i64 k] 3)) (.slice (some ⟨wr.heap.size, 0, none⟩) 1 1) 37
      simp only [World.size_alloc] at hcell
      go_wp2_with (at_builtin; refine wpList_append_own _ rfl _ _ 64 rfl w.heap.size 37 i0 _ 1 24 Tryz.underlying64 hi0 hz0 hz1 hz2 rfl (by decide) _ _ _ rfl hOo ⟨wr.heap.size + 1, 0, none⟩ 1 1 [.slice (some ⟨wr.heap.size, 0, none⟩) 1 1] rfl rfl hcell (by simp [Value.oneCell']) (by unfold maxLen; omega) (by omega) (by first | omega | (simp; done) | (simp; omega)) ?_; intro v2 W5 hown' hgrow _)
      have hB1 := hBB.trans (hg1.mono hzB)
      obtain ⟨u1, u2, u3⟩ := unit_step (zs := [(k : Int)]) hown1 (fun q hq => own_below (heach q hq) hg1) hrow1 hB1 hown' hgrow
      have b5 := ((b3.alloc (.cells #[.int .i64 k] 3)).alloc (.cells #[.slice (some ⟨wr.heap.size, 0, none⟩) 1 1] 37)).grown hgrow (fun e => own_blk_ne hOo ((b3.alloc (.cells #[.int .i64 k] 3)).alloc (.cells #[.slice (some ⟨wr.heap.size, 0, none⟩) 1 1] 37)) (by decide) e.symm)
      exact ⟨⟨k + 1, D ++ [⟨wr.heap.size, 1, [(k : Int)]⟩], v2, by omega, rfl, by go_num, Lib.hid (by rw [List.map_append, HD.out]; simp [numsTo, List.range_succ]), b5, u1, u2, u3⟩, by simp [intOf]; omega⟩
    · obtain rfl : k = l.length := by omega
      have M : GrM w l r _ D wr := ⟨hown, heach, by rw [HD.out]; exact RI.start l r, hBB⟩
      clear HD hown heach hBB hlt
      go_wp2
      go_loopw [5, 7] (fun s5 s7 wq => ∃ (D : List Rw) (v : Value) (ch : Bool), s5 = v ∧ s7 = .bool ch ∧ GrM w l r v D wq ∧ Blk wq w.heap.size 62 (ruC r) ∧ Hid (ch = false → PairsTo l r D D.length)) (fun s5 s7 _ => 2 * vlen s5 + bval s7)
      case atStart => exact ⟨D, _, true, rfl, rfl, M, b3, Lib.hid (fun h => by cases h)⟩
      case round =>
        clear M b3
        obtain ⟨D, v, ch, rfl, rfl, M, b3, HP⟩ := hrel
        obtain ⟨gA, gc, hv, _⟩ := M.rw
        subst hv
        cases ch with
        | false =>
          have hres := M.ri.done (PairsTo.all (HP.out rfl))
          go_wp2
          go_ret
          exact ⟨_, rfl, D, hres, M.own, M.each, M.below⟩
        | true =>
          have hDl := M.len
          clear HP
          go_wp2
          go_loopw [5, 7, 8] (fun s5 s7 s8 wq => ∃ (D' : List Rw) (v' : Value) (ch : Bool) (i : Nat), s5 = v' ∧ s7 = .bool ch ∧ s8 = .int .i64 i ∧ i ≤ D.length ∧ GrM w l r v' D' wq ∧ Blk wq w.heap.size 62 (ruC r) ∧ ((ch = false ∧ Hid (D'.length = D.length) ∧ Hid (PairsTo l r D' i)) ∨ (ch = true ∧ D'.length < D.length))) (fun _ _ s8 _ => D.length - (intOf s8).toNat)
          case atStart => exact ⟨D, _, false, 0, rfl, rfl, rfl, Nat.zero_le _, M, b3, .inl ⟨rfl, Lib.hid rfl, Lib.hid PairsTo.zero⟩⟩
          case round =>
            clear M b3
            obtain ⟨D', v', ch, i, rfl, rfl, rfl, hi, M, b3, hcase⟩ := hrel
            obtain ⟨gA', gc', hv, _⟩ := M.rw
            subst hv
            rcases hcase with ⟨rfl, hlen, HP⟩ | ⟨rfl, hlen⟩
            · by_cases hil : i < D'.length
              · have hilI : ((i : Int) < (D'.length : Int)) := by omega
                go_wp2
                go_loopw [5, 7, 9] (fun s5 s7 s9 wq => ∃ (D'' : List Rw) (v'' : Value) (ch : Bool) (k : Nat), s5 = v'' ∧ s7 = .bool ch ∧ s9 = .int .i64 k ∧ k ≤ D.length ∧ GrM w l r v'' D'' wq ∧ Blk wq w.heap.size 62 (ruC r) ∧ ((ch = false ∧ Hid (D''.length = D.length) ∧ i < k ∧ Hid (PairsTo l r D'' i ∧ PairTo l r D'' i k)) ∨ (ch = true ∧ D''.length < D.length))) (fun _ _ s9 _ => D.length - (intOf s9).toNat)
                case atStart => exact ⟨D', _, false, i + 1, rfl, rfl, by go_num, by have := hlen.out; omega, M, b3, .inl ⟨rfl, hlen, by omega, Lib.hid ⟨HP.out, PairTo.zero⟩⟩⟩
                case round =>
                  clear M b3 HP
                  obtain ⟨D'', v'', ch, k, rfl, rfl, rfl, hk, M, b3, hcase⟩ := hrel
                  obtain ⟨gA2, gc2, hv, MR⟩ := M.rw
                  subst hv
                  rcases hcase with ⟨rfl, hlen2, hik, HP⟩ | ⟨rfl, hlen2⟩
                  · by_cases hkl : k < D''.length
                    · have hkI : ((k : Int) < (D''.length : Int)) := by omega
                      have hiI : ((i : Int) < (D''.length : Int)) := by omega
                      have hk0 : (0 : Int) ≤ (k : Int) := by omega
                      have hi0' : (0 : Int) ≤ (i : Int) := by omega
                      have hil2 : i < D''.length := by omega
                      have hDl2 := M.len
                      obtain ⟨g, o, hgA, hgB, di⟩ := MR.cell hil2
                      obtain ⟨g', o', hgA', _, dk⟩ := MR.cell hkl
                      obtain ⟨rfl, rfl⟩ : g = g' ∧ o = o' := by rw [hgA] at hgA'; injection hgA' with e; injection e with e1 e2 e3; exact ⟨e1, e2⟩
                      unfold rwV at di dk
                      have hbd := Below.size M.below
                      have C1 : Hid (∀ w', Below wr.heap.size wr w' → Calls Tryz.prog 47 #[.slice A l.length c, .slice (some ⟨D''[i].b, 0, none⟩) D''[i].ns.length D''[i].cap] w' fun e w'' => e = .returned (.agg (mkC (hullR l D''[i].ns))) ∧ Below w'.heap.size w' w'') := Lib.hid (fun w' hw => by
                        have hm := List.getElem_mem hil2
                        obtain ⟨n1, n2⟩ := M.ns hm
                        exact refHullOf_any l A c B D''[i].ns _ _ wr.heap.size w' (hl.below (M.below.trans (hw.mono hbd)) hB) (by have := Below.size hw; omega) ((MR.each _ hm).below hw (Nat.le_refl _)) (Below.size hw) (by have := M.short hm; omega) (List.length_pos_iff.2 n1) (Lib.hid n2))
                      have C2 : Hid (∀ w', Below wr.heap.size wr w' → Calls Tryz.prog 47 #[.slice A l.length c, .slice (some ⟨D''[k].b, 0, none⟩) D''[k].ns.length D''[k].cap] w' fun e w'' => e = .returned (.agg (mkC (hullR l D''[k].ns))) ∧ Below w'.heap.size w' w'') := Lib.hid (fun w' hw => by
                        have hm := List.getElem_mem hkl
                        obtain ⟨n1, n2⟩ := M.ns hm
                        exact refHullOf_any l A c B D''[k].ns _ _ wr.heap.size w' (hl.below (M.below.trans (hw.mono hbd)) hB) (by have := Below.size hw; omega) ((MR.each _ hm).below hw (Nat.le_refl _)) (Below.size hw) (by have := M.short hm; omega) (List.length_pos_iff.2 n1) (Lib.hid n2))
                      have S1 : MkS (hullR l D''[i].ns) := MkS.hullR hms.out (M.ns (List.getElem_mem hil2)).1 (M.ns (List.getElem_mem hil2)).2
                      have S2 : MkS (hullR l D''[k].ns) := MkS.hullR hms.out (M.ns (List.getElem_mem hkl)).1 (M.ns (List.getElem_mem hkl)).2
                      have C3 := fun w => refInteract_any (hullR l D''[i].ns) (hullR l D''[k].ns) r S1 S2 hr w
                      have hA1 : hullA l D'' i = hullR l D''[i].ns := by unfold hullA; simp [hil2]
                      have hA2 : hullA l D'' k = hullR l D''[k].ns := by unfold hullA; simp [hkl]
                      have HUN : Hid (interactV (hullR l D''[i].ns) (hullR l D''[k].ns) r = true → RI l r (unitedV (D''.map (·.ns)) i k)) := Lib.hid (fun h => M.ri.unite hr hik (by simpa using hkl) (by have := h; rw [← hA1, ← hA2] at this; exact this))
                      have HNO : Hid (interactV (hullR l D''[i].ns) (hullR l D''[k].ns) r = false → PairTo l r D'' i (k + 1)) := Lib.hid (fun h => HP.out.2.step (by rw [hA1, hA2]; exact h))
                      have HNS : Hid (∀ q ∈ D'', 0 < q.ns.length ∧ q.ns.length ≤ 100) := Lib.hid (fun q hq => ⟨List.length_pos_iff.2 (M.ns hq).1, by have := M.short hq; omega⟩)
                      clear S1 S2 hA1 hA2
                      generalize hullR l D''[i].ns = Hi at *
                      generalize hullR l D''[k].ns = Hk at *
                      obtain ⟨J, hJ⟩ : ∃ J, interactV Hi Hk r = J := ⟨_, rfl⟩
                      rw [hJ] at HUN HNO
                      have HJ := Lib.hid hJ
                      clear hJ
                      generalize D''[i].b = ib at *
                      generalize D''[i].cap = ic at *
                      generalize D''[i].ns.length = il at *
                      generalize D''[k].b = kb at *
                      generalize D''[k].cap = kc at *
                      generalize D''[k].ns.length = kl at *
                      subst hgA
                      have lb3 := b3.lt
                      obtain ⟨e0, e1, e2, e3, f3⟩ := blk4r b3
                      go_upto_region 15 with fail
                      refine wp_region_b 14 (by kernel_rfl) (by kernel_rfl) ?_; simp only [List.take, List.drop]
                      repeat (first
                        | (apply StepsD.run
                           · go_simp
                             done
                           · intro w' hS K hK
                             have hc := (bcell hS).1
                             have hf := (bcell hS).2
                             have hz := hS.size
                             try simp at hz
                             go_simp
                             try go_bits
                             first
                               | exact hK _ hS
                               | (go_at_call 47; (with_reducible refine (C1.out _ hS).mono ?_); rintro e w1 ⟨rfl, hB1⟩; obtain ⟨hc1, hf1⟩ := bcell hB1; have hz1 := hB1.size; (try simp at hz1); exact hK _ (Below.trans hS (Below.mono hB1 (by first | exact Nat.le_refl _ | (simp; done) | (simp; omega) | omega))))
                               | (go_at_call 47; (with_reducible refine (C2.out _ hS).mono ?_); rintro e w1 ⟨rfl, hB1⟩; obtain ⟨hc1, hf1⟩ := bcell hB1; have hz1 := hB1.size; (try simp at hz1); exact hK _ (Below.trans hS (Below.mono hB1 (by first | exact Nat.le_refl _ | (simp; done) | (simp; omega) | omega))))
                               | (go_at_call 70; (with_reducible refine (C3 _).mono ?_); rw [HJ.out]; rintro e w1 ⟨rfl, hB1⟩; obtain ⟨hc1, hf1⟩ := bcell hB1; have hz1 := hB1.size; (try simp at hz1); exact hK _ (Below.trans hS (Below.mono hB1 (by first | exact Nat.le_refl _ | (simp; done) | (simp; omega) | omega))))
                               | exact hK _ (by repeat (first | (with_reducible exact Below.refl _ _) | (with_reducible assumption) | ((with_reducible refine Below.setCell ?_ ?_ _); rotate_left; · (first | exact Nat.le_refl _ | (simp; done) | (simp; omega) | omega)) | ((with_reducible refine Below.alloc ?_ ?_ _); rotate_left; · (first | exact Nat.le_refl _ | (simp; done) | (simp; omega) | omega)) | (with_reducible apply Below.drew) | (with_reducible apply below_drewN') | (refine Below.trans ?_ (Below.mono (by assumption) (by first | exact Nat.le_refl _ | (simp; done) | (simp; omega) | omega))) | exact Below.refl _ _ | assumption))
                           · simp [Act.put]
                             done)
                        | (apply StepsD.pass
                           · go_simp
                             done
                           · simp only [Act.put, List.setIfInBounds_toArray, List.set_cons_succ, List.set_cons_zero]
                             rfl))
                      refine StepsD.done ?_
                      intro w9 hS9
                      replace M := M.gr hS9
                      replace b3 := b3.gr hS9
                      have hbd9 := Below.size M.below
                      obtain ⟨gA9, gc9, hv9, MR9⟩ := M.rw
                      injection hv9 with q1 q2 q3
                      subst q1 q3
                      clear C1 C2 C3 e0 e1 e2 e3 f3 di dk hS9 MR
                      cases J
                      · have HX := Lib.hid (HNO.out (by trivial))
                        go_wp2
                        exact ⟨⟨D'', _, false, k + 1, rfl, rfl, by go_num, by have := hlen2.out; omega, M, b3, .inl ⟨rfl, hlen2, by omega, Lib.hid ⟨HP.out.1, HX.out⟩⟩⟩, by have := hlen2.out; simp [intOf]; omega⟩
                      · have HX := Lib.hid (HUN.out (by trivial))
                        go_wp2_with fail
                        refine (united_any D'' (some ⟨g, o, none⟩) gc2 w9.heap.size i k w9 MR9 (Nat.le_refl _) hik hkl (by omega) HNS).mono ?_
                        rintro e wu ⟨vO, O, rfl, hO, hown, heach, hBu⟩
                        have MU : GrM w l r vO O wu := ⟨hown.mono hbd9, fun q hq => (heach q hq).mono hbd9, by rw [hO]; exact HX.out, M.below.trans (hBu.mono hbd9)⟩
                        replace b3 := b3.gr hBu
                        have hOl : Hid (O.length < D.length) := Lib.hid (by
                          have := congrArg List.length hO
                          unfold unitedV at this
                          rw [List.length_map, List.length_eraseIdx_of_lt (by simp; omega)] at this
                          simp at this
                          have := hlen2.out
                          omega)
                        clear hown heach hBu hO
                        go_wp2
                        exact ⟨⟨O, _, true, k + 1, rfl, rfl, by go_num, by have := hlen2.out; omega, MU, b3, .inr ⟨rfl, hOl.out⟩⟩, by have := hlen2.out; simp [intOf]; omega⟩
                    · have hkI : ¬ ((k : Int) < (D''.length : Int)) := by omega
                      obtain rfl : k = D''.length := by have := hlen2.out; omega
                      go_wp2
                      exact ⟨⟨D'', _, false, i + 1, rfl, rfl, by go_num, by have := hlen2.out; omega, M, b3, .inl ⟨rfl, hlen2, Lib.hid (HP.out.1.step HP.out.2)⟩⟩, by have := hlen2.out; simp [intOf]; omega⟩
                  · by_cases hkl : k < D''.length
                    · have hkI : ((k : Int) < (D''.length : Int)) := by omega
                      go_wp2
                      exact ⟨⟨D'', _, true, i + 1, rfl, rfl, by go_num, by have := hlen.out; omega, M, b3, .inr ⟨rfl, hlen2⟩⟩, by have := hlen.out; simp [intOf]; omega⟩
                    · have hkI : ¬ ((k : Int) < (D''.length : Int)) := by omega
                      go_wp2
                      exact ⟨⟨D'', _, true, i + 1, rfl, rfl, by go_num, by have := hlen.out; omega, M, b3, .inr ⟨rfl, hlen2⟩⟩, by have := hlen.out; simp [intOf]; omega⟩
              · obtain rfl : i = D'.length := by have := hlen.out; omega
                go_wp2
                exact ⟨⟨D', _, false, rfl, rfl, M, b3, Lib.hid (fun _ => HP.out)⟩, by have := hlen.out; simp [vlen, bval]; omega⟩
            · by_cases hil : i < D'.length
              · have hilI : ((i : Int) < (D'.length : Int)) := by omega
                go_wp2
                exact ⟨⟨D', _, true, rfl, rfl, M, b3, Lib.hid (fun h => by cases h)⟩, by simp [vlen, bval]; omega⟩
              · have hilI : ¬ ((i : Int) < (D'.length : Int)) := by omega
                go_wp2
                exact ⟨⟨D', _, true, rfl, rfl, M, b3, Lib.hid (fun h => by cases h)⟩, by simp [vlen, bval]; omega⟩
end Go.Proofs.YtidgeagpgllkeaaGreat
