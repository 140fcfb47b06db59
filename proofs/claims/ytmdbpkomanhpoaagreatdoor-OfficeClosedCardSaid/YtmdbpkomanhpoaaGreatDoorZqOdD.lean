/- Contract: an event read (tune.ParseEvent). -/
import Derived.IntWalk
import Derived.Test.YtmdbpkomanhpoaaGreatDoorZqOdC
import Derived.Test.YtmdbpkomanhpoaaGreatDoorZqOtD
import Derived.Test.YtmdbpkomanhpoaaGreatDoorZqRgW
namespace Go.Proofs.YtmdbpkomanhpoaaGreatDoor
open Go.RowKit Go.Lib

/-- The event with a text, and the error. -/
def evW (ws : List ByteArray) (i : Nat) : Int := ((ws[i]?.bind fun x => numL 9 x.data.toList).getD 0)
def evOf (s : ByteArray) : Ev := ⟨evW (cutB 32 s) 0, evW (cutB 32 s) 1, evW (cutB 32 s) 2⟩
def peT (s : ByteArray) : Int := if (cutB 32 s).length = 3 then (if numsO (cutB 32 s) = true then 0 else 7) else 7
def peVal (s : ByteArray) : Value := .agg (if peT s = 0 then evC (evOf s) else #[.int .i64 0, .int .i64 0, .int .i64 0])
def PeR (s : ByteArray) (e : Ending) : Prop := e = .returned (.tuple #[peVal s, .int .i64 (peT s)])
theorem PeR.bad {s : ByteArray} (h : peT s = 7) : PeR s (.returned (.tuple #[.agg #[.int .i64 0, .int .i64 0, .int .i64 0], .int .i64 7])) := by unfold PeR peVal; rw [h]; rfl
theorem PeR.ok {s : ByteArray} (h : peT s = 0) : PeR s (.returned (.tuple #[.agg (evC (evOf s)), .int .i64 0])) := by unfold PeR peVal; rw [h]; rfl
theorem blkz3 {w : World} {g t : Nat} {v0 v1 v2 : Value} (h : Blk w g t #[v0, v1, v2]) : w.cell? ⟨g, 0, none⟩ = some v0 ∧ w.cell? ⟨g, 1, none⟩ = some v1 ∧ w.cell? ⟨g, 2, none⟩ = some v2 ∧ ∀ i, w.frozen? ⟨g, i, none⟩ = false := ⟨h.cell 0, h.cell 1, h.cell 2, h.frozen⟩
theorem Blk.put3 {w : World} {g : Nat} {t : TypeId} {v0 v1 v2 : Value} (h : Blk w g t #[v0, v1, v2]) (u0 u1 u2 : Value) : Blk (((w.setCell ⟨g, 0, none⟩ u0).setCell ⟨g, 1, none⟩ u1).setCell ⟨g, 2, none⟩ u2) g t #[u0, u1, u2] := ((h.set_ 0 u0).set_ 1 u1).set_ 2 u2
theorem Below.put3 {n g : Nat} {a b : World} (h : Below n a b) (hg : n ≤ g) (u0 u1 u2 : Value) : Below n a (((b.setCell ⟨g, 0, none⟩ u0).setCell ⟨g, 1, none⟩ u1).setCell ⟨g, 2, none⟩ u2) := ((h.setCell hg _).setCell hg _).setCell hg _
abbrev ptrO (b o : Nat) : Value := .pointer (some ⟨b, o, none⟩)
set_option maxRecDepth 100000 in
theorem index_ptr3 (b : Nat) {k : Nat} (hk : k < 3) (w : World) : (Instr.index 209 (.agg #[ptrO b 0, ptrO b 1, ptrO b 2]) (.int .i64 k)).run Tryz.prog w = .ok (ptrO b k) w := by
  rcases (by omega : k = 0 ∨ k = 1 ∨ k = 2) with rfl | rfl | rfl
  all_goals kernel_rfl

set_option maxRecDepth 100000 in
set_option maxHeartbeats 4000000 in
/-- A word that strconv.Atoi takes (region 10). -/
theorem peReg10 {W : World} {g1 k : Nat} (hk : k < 3) {x y tr : ByteArray} (v : Int) (cx : W.cell? ⟨g1, k, none⟩ = some (.string x)) (lt1 : g1 < W.heap.size)
    (HIT : Hid (∀ W', Below W.heap.size W W' → Calls Tryz.prog 52 #[.int .i64 v] W' fun e w' => e = .returned (.string y) ∧ Below W'.heap.size W' w'))
    (HTR : Hid (∀ W', Calls Tryz.prog 131 #[.string x, .string ⟨#[45]⟩] W' fun e w' => e = .returned (.string tr) ∧ W' = w')) (hts : tr.size ≤ 100000) (b : Bool) (hb : b = (!(decide (y = x)) || decide (9 < tr.size))) {t0 t1 t2 t3 t4 t5 t8 t11 t12 t13 t14 t15 t16 t17 t18 t19 t20 t21 t22 t23 t24 t25 t26 t27 t28 t29 t30 t31 t32 t33 t34 t35 t36 t37 t38 t39 t40 t41 t42 t43 t44 t45 t46 t47 t48 t49 t50 t51 t52 t53 t54 t55 t56 t57 t58 t59 : Value} {ds : List Deferred} (K' : Act → World → Prop) (Q' : Exit → Act → World → Prop)
    (h : ∀ (t34 t35 t36 t37 t38 t39 t40 t41 t42 t43 t44 t45 t46 t47 t48 t49 t50 t51 t52 : Value) (w' : World), Gr W w' → K' ⟨#[t0, t1, t2, t3, t4, t5, .slice (some ⟨g1, 0, none⟩) 3 3, .int .i64 k, t8, .int .i64 v, .nilIface, t11, t12, t13, t14, t15, t16, t17, t18, t19, t20, t21, t22, t23, t24, t25, t26, t27, t28, t29, t30, t31, t32, t33, t34, t35, t36, t37, t38, t39, t40, t41, t42, t43, t44, t45, t46, t47, t48, t49, t50, t51, t52, .bool b, t54, t55, t56, t57, t58, t59], ds⟩ w') :
    (regOf Tryz.f90 10).wp Tryz.prog (Exit.then K' Q') ⟨#[t0, t1, t2, t3, t4, t5, .slice (some ⟨g1, 0, none⟩) 3 3, .int .i64 k, t8, .int .i64 v, .nilIface, t11, t12, t13, t14, t15, t16, t17, t18, t19, t20, t21, t22, t23, t24, t25, t26, t27, t28, t29, t30, t31, t32, t33, t34, t35, t36, t37, t38, t39, t40, t41, t42, t43, t44, t45, t46, t47, t48, t49, t50, t51, t52, t53, t54, t55, t56, t57, t58, t59], ds⟩ W := by
  have H := Lib.hid h; clear h
  have k0 : (0 : Int) ≤ (k : Int) := by omega
  have k5 : (k : Int) < 3 := by omega
  have hB0 : Below W.heap.size W W := Below.refl _ _
  have hti : ∀ a b : ByteArray, a.toList = b.toList → a = b := fun a b e => by
    rw [toList_data, toList_data] at e
    exact ByteArray.ext (Array.toList_inj.1 e)
  by_cases hyx : y = x
  · have hyl : (y.toList == x.toList) = true := by rw [hyx]; simp
    rw [decide_eq_true hyx] at hb
    clear hyx hti
    by_cases h10 : 9 < tr.size
    · have hE : b = true := by rw [hb, decide_eq_true h10]; rfl
      have g10 : decide ((9 : Int) < (tr.size : Int)) = true := by rw [decide_eq_true_eq]; omega
      subst hE
      clear hb
      conv in (regOf _ _) => whnf
      refine wp_region_b 20 (by kernel_rfl) (by kernel_rfl) ?_; simp only [List.take, List.drop]
      repeat (first
        | (apply StepsD.run
           · go_simp
             done
           · intro w' hS K hK
             have hc := (bcell hS).1
             have hf := (bcell hS).2
             have hz := hS.size
             try simp at hz
             go_simp
             try go_bits
             first
               | exact hK _ hS
               | (go_at_call 52; (refine (HIT.out _ hS).mono ?_); rintro e w1 ⟨rfl, hB1⟩; obtain ⟨hc1, hf1⟩ := bcell hB1; have hz1 := hB1.size; (try simp at hz1); exact hK _ (Below.trans hS (Below.mono hB1 (by first | exact Nat.le_refl _ | (simp; done) | (simp; omega) | omega))))
               | (go_at_call 131; (refine (HTR.out _).mono ?_); rintro e w1 ⟨rfl, rfl⟩; exact hK _ hS)
               | exact hK _ (by repeat (first | (with_reducible exact Below.refl _ _) | (with_reducible assumption) | ((with_reducible refine Below.setCell ?_ ?_ _); rotate_left; · (first | exact Nat.le_refl _ | (simp; done) | (simp; omega) | omega)) | ((with_reducible refine Below.alloc ?_ ?_ _); rotate_left; · (first | exact Nat.le_refl _ | (simp; done) | (simp; omega) | omega)) | (with_reducible apply Below.drew) | (with_reducible apply below_drewN') | (refine Below.trans ?_ (Below.mono (by assumption) (by first | exact Nat.le_refl _ | (simp; done) | (simp; omega) | omega))) | exact Below.refl _ _ | assumption))
           · simp [Act.put]
             done)
        | (apply StepsD.pass
           · first | (go_simp; done) | rfl
           · simp only [Act.put, List.setIfInBounds_toArray, List.set_cons_succ, List.set_cons_zero]
             rfl))
      refine StepsD.done ?_
      intro w9 hS9
      exact H.out _ _ _ _ _ _ _ _ _ _ _ _ _ _ _ _ _ _ _ w9 hS9
    · have hE : b = false := by rw [hb, decide_eq_false h10]; rfl
      have g10 : decide ((9 : Int) < (tr.size : Int)) = false := by rw [decide_eq_false_iff_not]; omega
      subst hE
      clear hb
      conv in (regOf _ _) => whnf
      refine wp_region_b 20 (by kernel_rfl) (by kernel_rfl) ?_; simp only [List.take, List.drop]
      repeat (first
        | (apply StepsD.run
           · go_simp
             done
           · intro w' hS K hK
             have hc := (bcell hS).1
             have hf := (bcell hS).2
             have hz := hS.size
             try simp at hz
             go_simp
             try go_bits
             first
               | exact hK _ hS
               | (go_at_call 52; (refine (HIT.out _ hS).mono ?_); rintro e w1 ⟨rfl, hB1⟩; obtain ⟨hc1, hf1⟩ := bcell hB1; have hz1 := hB1.size; (try simp at hz1); exact hK _ (Below.trans hS (Below.mono hB1 (by first | exact Nat.le_refl _ | (simp; done) | (simp; omega) | omega))))
               | (go_at_call 131; (refine (HTR.out _).mono ?_); rintro e w1 ⟨rfl, rfl⟩; exact hK _ hS)
               | exact hK _ (by repeat (first | (with_reducible exact Below.refl _ _) | (with_reducible assumption) | ((with_reducible refine Below.setCell ?_ ?_ _); rotate_left; · (first | exact Nat.le_refl _ | (simp; done) | (simp; omega) | omega)) | ((with_reducible refine Below.alloc ?_ ?_ _); rotate_left; · (first | exact Nat.le_refl _ | (simp; done) | (simp; omega) | omega)) | (with_reducible apply Below.drew) | (with_reducible apply below_drewN') | (refine Below.trans ?_ (Below.mono (by assumption) (by first | exact Nat.le_refl _ | (simp; done) | (simp; omega) | omega))) | exact Below.refl _ _ | assumption))
           · simp [Act.put]
             done)
        | (apply StepsD.pass
           · first | (go_simp; done) | rfl
           · simp only [Act.put, List.setIfInBounds_toArray, List.set_cons_succ, List.set_cons_zero]
             rfl))
      refine StepsD.done ?_
      intro w9 hS9
      exact H.out _ _ _ _ _ _ _ _ _ _ _ _ _ _ _ _ _ _ _ w9 hS9
  · have hE : b = true := by rw [hb, decide_eq_false hyx]; rfl
    subst hE
    have hyl : (y.toList == x.toList) = false := beq_eq_false_iff_ne.2 fun e => hyx (hti _ _ e)
    clear hb HTR hts hti hyx
    conv in (regOf _ _) => whnf
    refine wp_region_b 20 (by kernel_rfl) (by kernel_rfl) ?_; simp only [List.take, List.drop]
    repeat (first
      | (apply StepsD.run
         · go_simp
           done
         · intro w' hS K hK
           have hc := (bcell hS).1
           have hf := (bcell hS).2
           have hz := hS.size
           try simp at hz
           go_simp
           try go_bits
           first
             | exact hK _ hS
             | (go_at_call 52; (refine (HIT.out _ hS).mono ?_); rintro e w1 ⟨rfl, hB1⟩; obtain ⟨hc1, hf1⟩ := bcell hB1; have hz1 := hB1.size; (try simp at hz1); exact hK _ (Below.trans hS (Below.mono hB1 (by first | exact Nat.le_refl _ | (simp; done) | (simp; omega) | omega))))
             | (go_at_call 131; (refine (HTR.out _).mono ?_); rintro e w1 ⟨rfl, rfl⟩; exact hK _ hS)
             | exact hK _ (by repeat (first | (with_reducible exact Below.refl _ _) | (with_reducible assumption) | ((with_reducible refine Below.setCell ?_ ?_ _); rotate_left; · (first | exact Nat.le_refl _ | (simp; done) | (simp; omega) | omega)) | ((with_reducible refine Below.alloc ?_ ?_ _); rotate_left; · (first | exact Nat.le_refl _ | (simp; done) | (simp; omega) | omega)) | (with_reducible apply Below.drew) | (with_reducible apply below_drewN') | (refine Below.trans ?_ (Below.mono (by assumption) (by first | exact Nat.le_refl _ | (simp; done) | (simp; omega) | omega))) | exact Below.refl _ _ | assumption))
         · simp [Act.put]
           done)
      | (apply StepsD.pass
         · first | (go_simp; done) | rfl
         · simp only [Act.put, List.setIfInBounds_toArray, List.set_cons_succ, List.set_cons_zero]
           rfl))
    refine StepsD.done ?_
    intro w9 hS9
    exact H.out _ _ _ _ _ _ _ _ _ _ _ _ _ _ _ _ _ _ _ w9 hS9
set_option maxRecDepth 100000 in
set_option maxHeartbeats 4000000 in
theorem parseEvent_any (s : ByteArray) (w : World) (hs : s.size ≤ 10000) (hL : LibW w) :
    Calls Tryz.prog 90 #[.string s] w fun e w' => PeR s e ∧ Below w.heap.size w w' := by
  have HL := Lib.hid hL; clear hL
  have HE1 : Hid ((cutB 32 s).length ≠ 3 → peT s = 7) := Lib.hid fun h => by unfold peT; rw [if_neg h]
  have HE2 : Hid ((cutB 32 s).length = 3 → numsO (cutB 32 s) = false → peT s = 7) := Lib.hid fun h h1 => by unfold peT; rw [if_pos h, if_neg (by simp [h1])]
  have HE3 : Hid ((cutB 32 s).length = 3 → numsO (cutB 32 s) = true → peT s = 0) := Lib.hid fun h h1 => by unfold peT; rw [if_pos h, if_pos h1]
  have HEV : Hid (evOf s = ⟨evW (cutB 32 s) 0, evW (cutB 32 s) 1, evW (cutB 32 s) 2⟩) := Lib.hid rfl
  have HSZ : Hid (∀ x ∈ cutB 32 s, x.size ≤ 10000) := Lib.hid fun x hx => Nat.le_trans (cutB_size hx) hs
  have HSP0 : Hid (∀ W, Below w.heap.size w W → Calls Tryz.prog 47 #[.string s, .string ⟨#[32]⟩] W fun e w' => e = .returned (.slice (some ⟨W.heap.size, 0, none⟩) (cutB 32 s).length (cutB 32 s).length) ∧ w' = W.alloc (.cells (strsC (cutB 32 s)).toArray 9)) := Lib.hid fun W hW => split_any s 32 (by omega) W (HL.out.below hW (Nat.le_refl _))
  generalize cutB 32 s = ws at *
  have br := ((Blk.new w 166 #[.int .i64 0, .int .i64 0, .int .i64 0]).alloc (.cells #[.int .i64 0, .int .i64 0, .int .i64 0] 166 (0, 0))).alloc (.cells #[ptrO (w.heap.size + 1) 0, ptrO (w.heap.size + 1) 1, ptrO (w.heap.size + 1) 2] 209 (0, 0))
  have bx := (Blk.new' (w.alloc (.cells #[.int .i64 0, .int .i64 0, .int .i64 0] 166)) 166 #[.int .i64 0, .int .i64 0, .int .i64 0] (g := w.heap.size + 1) (by simp)).alloc (.cells #[ptrO (w.heap.size + 1) 0, ptrO (w.heap.size + 1) 1, ptrO (w.heap.size + 1) 2] 209 (0, 0))
  have ba := Blk.new' ((w.alloc (.cells #[.int .i64 0, .int .i64 0, .int .i64 0] 166)).alloc (.cells #[.int .i64 0, .int .i64 0, .int .i64 0] 166)) 209 #[ptrO (w.heap.size + 1) 0, ptrO (w.heap.size + 1) 1, ptrO (w.heap.size + 1) 2] (g := w.heap.size + 2) (by simp)
  have hB0 : Below w.heap.size w (((w.alloc (.cells #[.int .i64 0, .int .i64 0, .int .i64 0] 166)).alloc (.cells #[.int .i64 0, .int .i64 0, .int .i64 0] 166)).alloc (.cells #[ptrO (w.heap.size + 1) 0, ptrO (w.heap.size + 1) 1, ptrO (w.heap.size + 1) 2] 209)) := (by repeat (first | (with_reducible exact Below.refl _ _) | (with_reducible assumption) | ((with_reducible refine Below.setCell ?_ ?_ _); rotate_left; · (first | exact Nat.le_refl _ | (simp; done) | (simp; omega) | omega)) | ((with_reducible refine Below.alloc ?_ ?_ _); rotate_left; · (first | exact Nat.le_refl _ | (simp; done) | (simp; omega) | omega)) | (with_reducible apply Below.drew) | (with_reducible apply below_drewN') | (refine Below.trans ?_ (Below.mono (by assumption) (by first | exact Nat.le_refl _ | (simp; done) | (simp; omega) | omega))) | exact Below.refl _ _ | assumption))
  go_enter Tryz.func90, Tryz.ntmps90
  go_wp2_with fail
  obtain ⟨W0, hW0⟩ : ∃ W0, W0 = (((w.alloc (.cells #[.int .i64 0, .int .i64 0, .int .i64 0] 166)).alloc (.cells #[.int .i64 0, .int .i64 0, .int .i64 0] 166)).alloc (.cells #[ptrO (w.heap.size + 1) 0, ptrO (w.heap.size + 1) 1, ptrO (w.heap.size + 1) 2] 209)) := ⟨_, rfl⟩
  have hsz0 : W0.heap.size = w.heap.size + 3 := by rw [hW0]; simp
  rw [← hW0] at br bx ba hB0
  rw [← hW0]
  clear hW0
  refine (HSP0.out W0 hB0).mono ?_
  rintro e w1 ⟨rfl, rfl⟩
  rw [hsz0]
  have hB1 := hB0.alloc hB0.size (.cells (strsC ws).toArray 9 (0, 0))
  have br1 := br.alloc (.cells (strsC ws).toArray 9 (0, 0))
  have bx1 := bx.alloc (.cells (strsC ws).toArray 9 (0, 0))
  have ba1 := ba.alloc (.cells (strsC ws).toArray 9 (0, 0))
  have bw := Blk.new W0 9 (strsC ws).toArray
  rw [hsz0] at bw
  generalize W0.alloc (.cells (strsC ws).toArray 9 (0, 0)) = W1 at *
  clear br bx ba hB0 HSP0 hsz0
  by_cases h6 : ws.length = 3
  · have h6' : ((ws.length : Int) != 3) = false := by simp; omega
    have H6 := Lib.hid h6
    have hi3 : (ws.length : Int) = 3 := by omega
    have HNUM : Hid ((∀ k (h : k < ws.length), (numL 9 ws[k].data.toList).isSome = true) → peT s = 0) := Lib.hid fun h => HE3.out h6 (List.all_eq_true.2 fun x hx => by
      obtain ⟨k, hk, rfl⟩ := List.getElem_of_mem hx
      exact h k hk)
    have HNO : Hid (∀ k (h : k < ws.length), numL 9 ws[k].data.toList = none → peT s = 7) := Lib.hid fun k h h1 => HE2.out h6 (List.all_eq_false.2 ⟨ws[k], List.getElem_mem h, by rw [h1]; simp⟩)
    have HVAL : Hid (∀ k (h : k < ws.length), evW ws k = (numL 9 ws[k].data.toList).getD 0) := Lib.hid fun k h => by unfold evW; rw [List.getElem?_eq_getElem h]; rfl
    clear h6 HE1 HE2 HE3
    obtain ⟨a0, a1, a2, af⟩ := blkz3 ba1
    have la := ba1.lt
    have hs1 : w.heap.size + 3 < W1.heap.size := bw.lt
    have HW6 : Hid (∀ k (h : k < ws.length), W1.cell? ⟨w.heap.size + 3, k, none⟩ = some (.string ws[k])) := Lib.hid fun k h => by rw [bw.cell k, List.getElem?_toArray]; exact strsC_at h
    clear bw
    rw [H6.out]
    clear h6' hi3
    go_wp2
    clear a0 a1 a2 af la
    go_loopw [22] (fun i wr => ∃ k : Nat, k ≤ 3 ∧ i = .int .i64 k ∧ Hid ((∀ j (h : j < ws.length), j < k → (numL 9 ws[j].data.toList).isSome = true) ∧ (∃ cs, Blk wr (w.heap.size + 1) 166 cs ∧ cs.size = 3 ∧ ∀ j, j < 3 → cs[j]? = some (.int .i64 (if j < k then evW ws j else 0))) ∧ (∀ k (h : k < ws.length), wr.cell? ⟨w.heap.size + 3, k, none⟩ = some (.string ws[k]))) ∧ Blk wr w.heap.size 166 #[.int .i64 0, .int .i64 0, .int .i64 0] ∧ Below w.heap.size w wr ∧ w.heap.size + 3 < wr.heap.size) (fun i _ => 3 - (intOf i).toNat)
    case atStart => exact ⟨0, by omega, rfl, Lib.hid ⟨fun j _ hj => absurd hj (Nat.not_lt_zero _), ⟨_, bx1, rfl, fun j hj => by
      obtain rfl | rfl | rfl : j = 0 ∨ j = 1 ∨ j = 2 := by omega
      all_goals rfl⟩, HW6.out⟩, br1, hB1, hs1⟩
    case round =>
      clear bx1 br1 hB1 hs1 HW6 ba1
      obtain ⟨k, hk, rfl, HI, br1, hBr, hsr⟩ := hrel
      by_cases hlt : k < 3
      · have hkw : k < ws.length := by have := H6.out; omega
        have c0 := HI.out.2.2 k hkw
        have hp := index_ptr3 (w.heap.size + 1) hlt wr
        have hsz := HSZ.out _ (List.getElem_mem hkw)
        have HNO1 := Lib.hid (HNO.out k hkw)
        have HVAL1 := Lib.hid (HVAL.out k hkw)
        have HALL : Hid ((numL 9 ws[k].data.toList).isSome = true → ∀ j (h : j < ws.length), j < k + 1 → (numL 9 ws[j].data.toList).isSome = true) := Lib.hid fun h j hj hjk => by
          rcases Nat.lt_or_ge j k with h1 | h1
          · exact HI.out.1 j hj h1
          · obtain rfl : j = k := by omega
            exact h
        have HLW := Lib.hid (HL.out.below hBr (Nat.le_refl _))
        have hzB := Below.size hBr
        have hk0 : (0 : Int) ≤ (k : Int) := by omega
        have hk3 : (k : Int) < 3 := by omega
        generalize ws[k] = x at *
        by_cases ha : ∃ v, atoiAll x.data.toList = .ok v
        · obtain ⟨v, hv⟩ := ha
          have hvb := atoiAll_bounds hv
          have hP := numP_parts hv
          have HAT := Lib.hid (atoi_ok x (by omega) v hv wr)
          obtain ⟨y, hy⟩ : ∃ y, strB (itoa v) = y := ⟨_, rfl⟩
          have HIT : Hid (∀ W', LibW W' → Calls Tryz.prog 52 #[.int .i64 v] W' fun e w' => e = .returned (.string y) ∧ Below W'.heap.size W' w') := Lib.hid fun W' h => by rw [← hy]; exact itoa_any v hvb.1 hvb.2 W' h
          have HTR : Hid (∀ W', Calls Tryz.prog 131 #[.string x, .string ⟨#[45]⟩] W' fun e w' => e = .returned (.string (strB (bodyL x.data.toList))) ∧ W' = w') := Lib.hid fun W' => trim_any x W'
          rw [hy] at hP
          have hts : (strB (bodyL x.data.toList)).size ≤ 100000 := by
            have hb := body_size x.data.toList
            rw [size_list] at hb
            rw [strB_size]
            omega
          obtain ⟨tr, htr⟩ : ∃ tr, strB (bodyL x.data.toList) = tr := ⟨_, rfl⟩
          rw [htr] at HTR hts hP
          obtain ⟨b, hb⟩ : ∃ b, b = (!(decide (y = x)) || decide (9 < tr.size)) := ⟨_, rfl⟩
          have HGD : Hid (b = false → numL 9 x.data.toList = some v) := Lib.hid fun e => by
            rw [e] at hb
            rw [hP, if_pos]
            by_cases e1 : y = x
            · by_cases e2 : 9 < tr.size
              · rw [decide_eq_true e2] at hb; simp at hb
              · exact ⟨e1, by omega⟩
            · rw [decide_eq_false e1] at hb; simp at hb
          have HBD : Hid (b = true → numL 9 x.data.toList = none) := Lib.hid fun e => by
            rw [e] at hb
            rw [hP, if_neg]
            rintro ⟨e1, e2⟩
            rw [decide_eq_true e1, decide_eq_false (by omega)] at hb
            simp at hb
          have HBE := Lib.hid hb
          have HTS := Lib.hid hts
          clear hb hP htr hy hts hv hvb
          go_wp2_with (go_at_call 130; refine HAT.out.mono ?_; rintro e w4 ⟨rfl, hB4⟩)
          have br2 := br1.below hB4 br1.lt
          have hsr2 : w.heap.size + 3 < w4.heap.size := by have := hB4.size; omega
          have cx : w4.cell? ⟨w.heap.size + 3, k, none⟩ = some (.string x) := (hB4.cell (p := ⟨w.heap.size + 3, k, none⟩) (by simpa using hsr)).trans c0
          have hBw := hBr.trans (hB4.mono hzB)
          have HI2 : Hid ((∃ cs, Blk w4 (w.heap.size + 1) 166 cs ∧ cs.size = 3 ∧ ∀ j, j < 3 → cs[j]? = some (.int .i64 (if j < k then evW ws j else 0))) ∧ (∀ k (h : k < ws.length), w4.cell? ⟨w.heap.size + 3, k, none⟩ = some (.string ws[k]))) := Lib.hid (by
            obtain ⟨_, ⟨cs, q1, q2, q3⟩, q4⟩ := HI.out
            exact ⟨⟨cs, q1.below hB4 q1.lt, q2, q3⟩, fun j hj => (hB4.cell (p := ⟨w.heap.size + 3, j, none⟩) (by simpa using hsr)).trans (q4 j hj)⟩)
          have HIT' : Hid (∀ W', Below w4.heap.size w4 W' → Calls Tryz.prog 52 #[.int .i64 v] W' fun e w' => e = .returned (.string y) ∧ Below W'.heap.size W' w') := Lib.hid fun W' hg => HIT.out W' ((HL.out.below hBw (Nat.le_refl _)).below hg (Nat.le_refl _))
          clear hB4 HI br1 hBr hsr c0 hp HLW hzB HAT HIT
          refine peReg10 hlt v cx hsr2 HIT' HTR HTS.out b HBE.out _ _ ?_
          intro t34 t35 t36 t37 t38 t39 t40 t41 t42 t43 t44 t45 t46 t47 t48 t49 t50 t51 t52 w5 hS5
          have br1 := br2.gr hS5
          have hBr := hBw.trans (Below.mono hS5 (Below.size hBw))
          have HI : Hid ((∃ cs, Blk w5 (w.heap.size + 1) 166 cs ∧ cs.size = 3 ∧ ∀ j, j < 3 → cs[j]? = some (.int .i64 (if j < k then evW ws j else 0))) ∧ (∀ k (h : k < ws.length), w5.cell? ⟨w.heap.size + 3, k, none⟩ = some (.string ws[k]))) := Lib.hid (by
            obtain ⟨⟨cs, q1, q2, q3⟩, q4⟩ := HI2.out
            exact ⟨⟨cs, q1.gr hS5, q2, q3⟩, fun j hj => (Below.cell hS5 (p := ⟨w.heap.size + 3, j, none⟩) (by simpa using hsr2)).trans (q4 j hj)⟩)
          have hsr : w.heap.size + 3 < w5.heap.size := by have := Below.size hS5; omega
          clear hsr2 br2 hBw HI2 HIT' HTR hS5 cx
          try dsimp only
          cases b
          · have HV := Lib.hid (HGD.out rfl)
            have HV2 : Hid (evW ws k = v) := Lib.hid (by rw [HVAL1.out, HV.out]; rfl)
            have HAL2 := Lib.hid (HALL.out (by rw [HV.out]; rfl))
            have hst : ∃ y, w5.cell? ⟨w.heap.size + 1, k, none⟩ = some y ∧ w5.frozen? ⟨w.heap.size + 1, k, none⟩ = false := by
              obtain ⟨⟨cs, q1, q2, q3⟩, _⟩ := HI.out
              exact ⟨_, (q1.cell k).trans (q3 k (by omega)), q1.frozen k⟩
            obtain ⟨y, hy, hyf⟩ := hst
            clear HALL HBD HGD HBE HTS HVAL1 HNO1
            go_wp2
            refine ⟨⟨k + 1, by omega, by go_num, Lib.hid ⟨HAL2.out, ?_, ?_⟩, br1.far (p := ⟨w.heap.size + 1, k, none⟩) (by simp) _, Below.setCell hBr (by simp) _, by simpa using hsr⟩, by simp [intOf]; omega⟩
            · obtain ⟨⟨cs, q1, q2, q3⟩, _⟩ := HI.out
              refine ⟨cs.setIfInBounds k (.int .i64 v), q1.set_ k _, by simpa using q2, fun j hj => ?_⟩
              rw [Array.getElem?_setIfInBounds]
              by_cases e : k = j
              · subst e
                rw [if_pos rfl, if_pos (by omega), if_pos (by omega), HV2.out]
              · rw [if_neg e, q3 j hj]
                by_cases e2 : j < k
                · rw [if_pos e2, if_pos (by omega)]
                · rw [if_neg e2, if_neg (by omega)]
            · intro j hj
              rw [World.cell?_setCell_other _ _ _ _ (fun e => by have := congrArg Addr.block e; simp at this)]
              exact HI.out.2 j hj
          · have HX := Lib.hid (HNO1.out (HBD.out rfl))
            clear HALL HBD HGD HBE HTS HVAL1 HNO1
            obtain ⟨z0, z1, z2, zf⟩ := blkz3 br1
            go_wp2
            have e3 := Blk.put3 br1 (.int .i64 0) (.int .i64 0) (.int .i64 0)
            have hF := Below.put3 (g := w.heap.size) hBr (Nat.le_refl _) (.int .i64 0) (.int .i64 0) (.int .i64 0)
            obtain ⟨y0, y1, y2, _⟩ := blkz3 e3
            refine bodyPost_ret (v := .tuple #[.agg #[.int .i64 0, .int .i64 0, .int .i64 0], .int .i64 7]) ?_ rfl ⟨PeR.bad HX.out, hF⟩
            simp [results, Tryz.results90, go_sem, y0, y1, y2]
        · have HAT := Lib.hid (atoi_bad x (by omega) (fun v e => ha ⟨v, e⟩) wr HLW.out)
          have HX : Hid (peT s = 7) := Lib.hid (HNO1.out (by
            rw [← numP_eq 9 (by decide)]
            unfold numP
            cases h : atoiAll x.data.toList with
            | ok v => exact absurd ⟨v, h⟩ ha
            | «syntax» => rfl
            | range => rfl))
          clear ha HALL HNO1 HVAL1
          go_wp2_with (go_at_call 130; refine HAT.out.mono ?_; rintro e w4 ⟨n, N, rfl, hB4⟩)
          have br2 := br1.below hB4 br1.lt
          have hBw := hBr.trans (hB4.mono hzB)
          have cx : w4.cell? ⟨w.heap.size + 3, k, none⟩ = some (.string x) := (hB4.cell (p := ⟨w.heap.size + 3, k, none⟩) (by simpa using hsr)).trans c0
          have hsr2 : w.heap.size + 3 < w4.heap.size := by have := hB4.size; omega
          clear hB4 HI br1 hBr hsr c0 hp HLW hzB HAT
          go_quiet (fail)
          clear cx
          have br3 : Blk (w4.drewN nq) w.heap.size 166 #[.int .i64 0, .int .i64 0, .int .i64 0] := br2.below (below_drewN' (Below.refl _ _) nq) br2.lt
          have hB3 : Below w.heap.size w (w4.drewN nq) := below_drewN' hBw nq
          obtain ⟨z0, z1, z2, zf⟩ := blkz3 br3
          go_wp2
          have e3 := Blk.put3 br3 (.int .i64 0) (.int .i64 0) (.int .i64 0)
          have hF := Below.put3 (g := w.heap.size) hB3 (Nat.le_refl _) (.int .i64 0) (.int .i64 0) (.int .i64 0)
          obtain ⟨y0, y1, y2, _⟩ := blkz3 e3
          refine bodyPost_ret (v := .tuple #[.agg #[.int .i64 0, .int .i64 0, .int .i64 0], .int .i64 7]) ?_ rfl ⟨PeR.bad HX.out, hF⟩
          simp [results, Tryz.results90, go_sem, y0, y1, y2]
      · have hk3 : k = 3 := by omega
        subst hk3
        have HX : Hid (peT s = 0) := Lib.hid (HNUM.out fun j hj => HI.out.1 j hj (by have := H6.out; omega))
        have bx2 : Blk wr (w.heap.size + 1) 166 #[.int .i64 (evW ws 0), .int .i64 (evW ws 1), .int .i64 (evW ws 2)] := by
          obtain ⟨_, ⟨cs, q1, q2, q3⟩, _⟩ := HI.out
          have : cs = #[.int .i64 (evW ws 0), .int .i64 (evW ws 1), .int .i64 (evW ws 2)] := Array.ext_getElem? fun j => by
            by_cases hj : j < 3
            · rw [q3 j hj, if_pos hj]
              obtain rfl | rfl | rfl : j = 0 ∨ j = 1 ∨ j = 2 := by omega
              all_goals rfl
            · rw [Array.getElem?_eq_none (by omega), Array.getElem?_eq_none (by simp; omega)]
          rw [this] at q1
          exact q1
        obtain ⟨x0, x1, x2, xf⟩ := blkz3 bx2
        obtain ⟨z0, z1, z2, zf⟩ := blkz3 br1
        clear HI
        go_wp2
        have e3 := Blk.put3 br1 (.int .i64 (evW ws 0)) (.int .i64 (evW ws 1)) (.int .i64 (evW ws 2))
        have hF := Below.put3 (g := w.heap.size) hBr (Nat.le_refl _) (.int .i64 (evW ws 0)) (.int .i64 (evW ws 1)) (.int .i64 (evW ws 2))
        obtain ⟨y0, y1, y2, _⟩ := blkz3 e3
        refine bodyPost_ret (v := .tuple #[.agg #[.int .i64 (evW ws 0), .int .i64 (evW ws 1), .int .i64 (evW ws 2)], .int .i64 0]) ?_ rfl ⟨by have := PeR.ok HX.out; rw [HEV.out] at this; exact this, hF⟩
        simp [results, Tryz.results90, go_sem, y0, y1, y2]
  · have h6' : ((ws.length : Int) != 3) = true := by simp; omega
    have HX := Lib.hid (HE1.out h6)
    clear h6 HE1 HE2 HE3
    obtain ⟨z0, z1, z2, zf⟩ := blkz3 br1
    go_wp2
    have e3 := Blk.put3 br1 (.int .i64 0) (.int .i64 0) (.int .i64 0)
    have hF := Below.put3 (g := w.heap.size) hB1 (Nat.le_refl _) (.int .i64 0) (.int .i64 0) (.int .i64 0)
    obtain ⟨y0, y1, y2, _⟩ := blkz3 e3
    refine bodyPost_ret (v := .tuple #[.agg #[.int .i64 0, .int .i64 0, .int .i64 0], .int .i64 7]) ?_ rfl ⟨PeR.bad HX.out, hF⟩
    simp [results, Tryz.results90, go_sem, y0, y1, y2]
end Go.Proofs.YtmdbpkomanhpoaaGreatDoor
