/- Plain law: the one area that has a cell. Contract: the reference's area of a cell, where there is one. -/
import Derived.Test.YtidgeagpgllkeaaGreatZaFjB
import Derived.Test.YtidgeagpgllkeaaGreatZaFjG
namespace Go.Proofs.YtidgeagpgllkeaaGreat
open Classical

theorem mem_compC {g : Int → Int → Int} {level : Int} {corners : Bool} {P : List (Int × Int)} {p x : Int × Int} : x ∈ compC g level corners P p ↔ x ∈ P ∧ Conn g level corners p x := by
  unfold compC
  rw [List.mem_filter, decide_eq_true_iff]
theorem compC_same {g : Int → Int → Int} {level : Int} {corners : Bool} {P : List (Int × Int)} (hP : Pls g level P) {p x : Int × Int} (hp : p ∈ P) (hc : Conn g level corners p x) : compC g level corners P p = compC g level corners P x := by
  unfold compC
  refine List.filter_congr fun y _ => ?_
  rw [decide_eq_decide]
  exact ⟨fun h => (Conn.symm ((hP.mem p).1 hp) hc).trans h, fun h => hc.trans h⟩
/-- Each area that has the cell is what hangs together with it. -/
theorem areasV_one {g : Int → Int → Int} {level : Int} {corners : Bool} {P : List (Int × Int)} (hP : Pls g level P) {x : Int × Int} {cs : List (Int × Int)} (h : cs ∈ areasV g level corners P) (hx : x ∈ cs) : cs = compC g level corners P x := by
  unfold areasV at h
  obtain ⟨p, hp, rfl⟩ := List.mem_map.1 h
  exact compC_same hP (List.mem_filter.1 hp).1 (mem_compC.1 hx).2
/-- Some area has the cell. -/
theorem areasV_has {g : Int → Int → Int} {level : Int} {corners : Bool} {P : List (Int × Int)} (hP : Pls g level P) {x : Int × Int} (hx : x ∈ P) : compC g level corners P x ∈ areasV g level corners P := by
  have hxQ : x ∈ P.filter (fun q => decide (Conn g level corners q x)) := List.mem_filter.2 ⟨hx, decide_eq_true .refl⟩
  have hasc := hP.asc.filter (fun q => decide (Conn g level corners q x))
  cases hQ : P.filter (fun q => decide (Conn g level corners q x)) with
  | nil => rw [hQ] at hxQ; cases hxQ
  | cons q t =>
    rw [hQ, List.pairwise_cons] at hasc
    have hq : q ∈ P.filter (fun q => decide (Conn g level corners q x)) := by rw [hQ]; simp
    obtain ⟨hqP, hqc⟩ := List.mem_filter.1 hq
    have hqc' := of_decide_eq_true hqc
    unfold areasV
    refine List.mem_map.2 ⟨q, List.mem_filter.2 ⟨hqP, decide_eq_true fun y hy hc hb => ?_⟩, compC_same hP hqP hqc'⟩
    have hyQ : y ∈ P.filter (fun q => decide (Conn g level corners q x)) := List.mem_filter.2 ⟨hy, decide_eq_true (hc.trans hqc')⟩
    rw [hQ] at hyQ
    rcases List.mem_cons.1 hyQ with e | hyt
    · subst e; exact bef_asy _ _ hb hb
    · exact bef_asy _ _ hb (hasc.1 y hyt)
end Go.Proofs.YtidgeagpgllkeaaGreat

namespace Go.Proofs.YtidgeagpgllkeaaGreat
open Go.RowKit

/-- What the box holds: the cells of an area, if a cell has been met among its first k. -/
def picked (cs : List (Int × Int)) (k : Nat) (p : Int × Int) (e x : List Value) : List Value := if p ∈ cs.take k then e else x
theorem picked_zero {cs : List (Int × Int)} {p : Int × Int} {e x : List Value} : picked cs 0 p e x = x := by simp [picked]
theorem picked_hit {cs : List (Int × Int)} {k : Nat} {p : Int × Int} {e x : List Value} (h : cs[k]? = some p) : picked cs (k + 1) p e x = e := by
  unfold picked
  rw [List.take_add_one, h, if_pos (by simp)]
theorem picked_miss {cs : List (Int × Int)} {k : Nat} {p q : Int × Int} {e x : List Value} (h : cs[k]? = some q) (hn : q ≠ p) : picked cs (k + 1) p e x = picked cs k p e x := by
  have : p ∈ cs.take (k + 1) ↔ p ∈ cs.take k := by
    rw [List.take_add_one, h, List.mem_append]
    exact ⟨fun h => h.elim id fun h => by simp at h; exact absurd h.symm hn, .inl⟩
  unfold picked
  by_cases hc : p ∈ cs.take k
  · rw [if_pos hc, if_pos (this.2 hc)]
  · rw [if_neg hc, if_neg (fun h => hc (this.1 h))]
def outL (g : Int → Int → Int) (p : Int × Int) (As : List ArA) (x : List Value) : List Value := As.foldl (fun x a => picked a.2 a.2.length p (encA g a) x) x
theorem outL_succ {g : Int → Int → Int} {p : Int × Int} {As : List ArA} {x : List Value} {i : Nat} {a : ArA} (h : As[i]? = some a) : outL g p (As.take (i + 1)) x = picked a.2 a.2.length p (encA g a) (outL g p (As.take i) x) := by
  unfold outL
  rw [List.take_add_one, h]
  simp
theorem outL_one (g : Int → Int → Int) (p : Int × Int) : ∀ (As : List ArA) (x : List Value), (outL g p As x = x ∧ ∀ a ∈ As, p ∉ a.2) ∨ ∃ a ∈ As, p ∈ a.2 ∧ outL g p As x = encA g a
  | [], x => .inl ⟨rfl, fun a h => by cases h⟩
  | a :: As, x => by
    have e : outL g p (a :: As) x = outL g p As (picked a.2 a.2.length p (encA g a) x) := rfl
    rcases outL_one g p As (picked a.2 a.2.length p (encA g a) x) with ⟨h1, h2⟩ | ⟨b, hb, h1, h2⟩
    · rw [e, h1]
      unfold picked
      rw [List.take_length]
      by_cases h : p ∈ a.2
      · rw [if_pos h]; exact .inr ⟨a, by simp, h, rfl⟩
      · rw [if_neg h]
        refine .inl ⟨rfl, fun b hb => ?_⟩
        rcases List.mem_cons.1 hb with rfl | hb
        · exact h
        · exact h2 b hb
    · exact .inr ⟨b, List.mem_cons_of_mem _ hb, h1, e.trans h2⟩
theorem outL_area {g : Int → Int → Int} {level : Int} {corners : Bool} {P : List (Int × Int)} (hP : Pls g level P) {As : List ArA} (hA : As.map (·.2) = areasV g level corners P) {p : Int × Int} (hp : p ∈ P) (x : List Value) : ∃ a ∈ As, a.2 = compC g level corners P p ∧ outL g p As x = encA g a := by
  rcases outL_one g p As x with ⟨_, h⟩ | ⟨a, ha, h1, h2⟩
  · have := areasV_has (corners := corners) hP hp
    rw [← hA] at this
    obtain ⟨a, ha, e⟩ := List.mem_map.1 this
    exact absurd (e ▸ mem_compC.2 ⟨hp, .refl⟩) (h a ha)
  · exact ⟨a, ha, areasV_one hP (by rw [← hA]; exact List.mem_map_of_mem ha) h1, h2⟩

set_option maxRecDepth 100000 in
set_option maxHeartbeats 8000000 in
theorem atLoop2 {V wr0 : World} {q5 : Nat} {g : Int → Int → Int} {As : List ArA} {A9 : Option Addr} {c9 : Nat} {r c : Int} (hA : ArsOk g As A9 V.heap.size V) (h5 : Blk V q5 25 #[.int .i64 r, .int .i64 c]) {i : Nat} (hi : i < As.length) {x0 x1 x2 x3 : Value} (hB : Below V.heap.size V wr0) (b10 : Blk wr0 V.heap.size 91 #[x0, x1, x2, x3]) {t0 t1 t2 t3 t4 t6 t7 t8 t13 t14 t15 t16 t17 t18 t19 t20 t21 t22 t23 t24 t25 t26 t27 t28 t29 t30 t31 t32 t33 t34 t35 t36 t37 t38 t39 t40 t41 t42 t43 t44 t45 t46 t47 t48 t49 t50 t51 t52 t53 t54 t55 t56 t57 t58 : Value} {ds : List Deferred} (Q' : Exit → Act → World → Prop)
    (h : ∀ (t12 t34 t35 t36 t37 t38 t39 t40 t41 t42 t43 t44 t45 t46 t47 t48 t49 t50 t51 t52 t53 t54 t55 t56 t57 y0 y1 y2 y3 : Value) (w' : World), [y0, y1, y2, y3] = picked As[i].2 As[i].2.length (r, c) (encA g As[i]) [x0, x1, x2, x3] → Below V.heap.size V w' → Blk w' V.heap.size 91 #[y0, y1, y2, y3] → Q' (.exit 2) ⟨#[t0, t1, t2, t3, t4, .pointer (some ⟨q5, 0, none⟩), t6, t7, t8, .slice A9 As.length c9, .pointer (some ⟨V.heap.size, 0, none⟩), .int .i64 i, t12, t13, t14, t15, t16, t17, t18, t19, t20, t21, t22, t23, t24, t25, t26, t27, t28, t29, t30, t31, t32, t33, t34, t35, t36, t37, t38, t39, t40, t41, t42, t43, t44, t45, t46, t47, t48, t49, t50, t51, t52, t53, t54, t55, t56, t57, t58], ds⟩ w') :
    (Code.loop (bodyOf Tryz.f64 1)).wp Tryz.prog Q' ⟨#[t0, t1, t2, t3, t4, .pointer (some ⟨q5, 0, none⟩), t6, t7, t8, .slice A9 As.length c9, .pointer (some ⟨V.heap.size, 0, none⟩), .int .i64 i, .int .i64 0, t13, t14, t15, t16, t17, t18, t19, t20, t21, t22, t23, t24, t25, t26, t27, t28, t29, t30, t31, t32, t33, t34, t35, t36, t37, t38, t39, t40, t41, t42, t43, t44, t45, t46, t47, t48, t49, t50, t51, t52, t53, t54, t55, t56, t57, t58], ds⟩ wr0 := by
  have H := Lib.hid h; clear h
  have hae := hA.each As[i] (List.getElem_mem hi)
  have HA := Lib.hid hA
  obtain ⟨Ai, ci, hai, hri⟩ := hae.row
  have hil := hae.len
  obtain ⟨cs, hcs⟩ : ∃ cs, As[i].2 = cs := ⟨_, rfl⟩
  have hai0 := hai
  rw [hcs] at H hri hil hai
  have HCS := Lib.hid hcs
  have lA := hA.len
  obtain ⟨b0, o0, hA9, hb0, hc0, hc1, hc2, hc3⟩ := hA.cell hi
  subst hA9
  rw [hai] at hc0
  rw [hcs] at hc1 hc2 hc3
  have HE : Hid (encA g As[i] = [.slice Ai cs.length ci, .int .i64 (peakV g cs).1, .int .i64 (peakV g cs).2, .int .i64 (g (peakV g cs).1 (peakV g cs).2)]) := Lib.hid (by unfold encA; rw [hai, hcs])
  obtain ⟨e0, he0⟩ : ∃ x, (peakV g cs).1 = x := ⟨_, rfl⟩
  obtain ⟨e1, he1⟩ : ∃ x, (peakV g cs).2 = x := ⟨_, rfl⟩
  rw [he0, he1] at HE
  rw [he0] at hc1
  rw [he1] at hc2
  rw [he0, he1] at hc3
  obtain ⟨e2, he2⟩ : ∃ x, g e0 e1 = x := ⟨_, rfl⟩
  rw [he2] at HE hc3
  clear he0 he1 he2 hai hcs hae hA hai0
  have d5 := blk2c h5
  obtain ⟨d0, d1, _⟩ := d5
  have l5 := h5.lt
  obtain ⟨EL, hEL⟩ : ∃ EL, encA g As[i] = EL := ⟨_, rfl⟩
  rw [hEL] at H HE
  clear hEL
  conv in (bodyOf _ _) => whnf
  dsimp only
  go_loopw [12] (fun s12 wr => ∃ (k : Nat) (y0 y1 y2 y3 : Value), k ≤ cs.length ∧ s12 = .int .i64 k ∧ Hid ([y0, y1, y2, y3] = picked cs k (r, c) EL [x0, x1, x2, x3]) ∧ Below V.heap.size V wr ∧ Blk wr V.heap.size 91 #[y0, y1, y2, y3]) (fun s12 _ => cs.length - (intOf s12).toNat)
  case atStart => exact ⟨0, x0, x1, x2, x3, Nat.zero_le _, by go_num, Lib.hid picked_zero.symm, hB, b10⟩
  case round =>
    clear hB b10
    obtain ⟨k, y0, y1, y2, y3, hk, rfl, HI, hBx, b10⟩ := hrel
    have hzx := Below.size hBx
    have f0 := (hBx.cell (p := ⟨b0, o0 + i * 4, none⟩) (by simp; omega)).trans hc0
    have f1 := (hBx.cell (p := ⟨b0, o0 + i * 4 + 1, none⟩) (by simp; omega)).trans hc1
    have f2 := (hBx.cell (p := ⟨b0, o0 + i * 4 + 2, none⟩) (by simp; omega)).trans hc2
    have f3 := (hBx.cell (p := ⟨b0, o0 + i * 4 + 3, none⟩) (by simp; omega)).trans hc3
    have m0 := (hBx.cell (p := ⟨q5, 0, none⟩) l5).trans d0
    have m1 := (hBx.cell (p := ⟨q5, 1, none⟩) l5).trans d1
    have lb : b0 < wr.heap.size := by omega
    have l5' : q5 < wr.heap.size := by omega
    have i1 : ((i : Int) < (As.length : Int)) := by omega
    by_cases hlt : k < cs.length
    · obtain ⟨bi, oi, hAi, hbi, v0, v1⟩ := cellPair (hri.below hBx (Nat.le_refl _)) hlt
      obtain ⟨x, hx⟩ : ∃ x, cs[k] = x := ⟨_, rfl⟩
      have hx' : cs[k]? = some x := by rw [List.getElem?_eq_getElem hlt, hx]
      rw [hx] at v0 v1
      have lbi : bi < wr.heap.size := by omega
      have k1 : ((k : Int) < (cs.length : Int)) := by omega
      have HXX := Lib.hid hx'
      obtain ⟨z0, z1, z2, z3, zf⟩ := blk4 b10
      have l10 := b10.lt
      subst hAi
      clear hx hx'
      have hq := eq_cell x.1 x.2 r c
      by_cases hxe : x = (r, c)
      · have hqq : (decide (x.1 = r) && decide (x.2 = c)) = true := by rw [hxe]; simp
        have HN : Hid ([.slice (some ⟨bi, oi, none⟩) cs.length ci, .int .i64 e0, .int .i64 e1, .int .i64 e2] = picked cs (k + 1) (r, c) EL [x0, x1, x2, x3]) := Lib.hid (by rw [picked_hit (hxe ▸ HXX.out), HE.out])
        simp only [hqq] at hq
        clear hqq hxe HI HXX
        go_wp2
        go_quiet (fail)
        go_wp2
        have b11 := b10.set4 (.slice (some ⟨bi, oi, none⟩) cs.length ci) (.int .i64 e0) (.int .i64 e1) (.int .i64 e2)
        refine ⟨⟨k + 1, _, _, _, _, by omega, by go_num, HN, Below.set4 (below_drewN' hBx _) (by omega), b11⟩, by simp [intOf]; omega⟩
      · have hqq : (decide (x.1 = r) && decide (x.2 = c)) = false := by
          by_cases h1 : x.1 = r
          · have : x.2 ≠ c := fun h2 => hxe (by rw [← h1, ← h2])
            simp [this]
          · simp [h1]
        have HN : Hid ([y0, y1, y2, y3] = picked cs (k + 1) (r, c) EL [x0, x1, x2, x3]) := Lib.hid (by rw [picked_miss HXX.out hxe]; exact HI.out)
        simp only [hqq] at hq
        clear hqq hxe HI HXX
        go_wp2
        go_quiet (fail)
        go_wp2
        refine ⟨⟨k + 1, y0, y1, y2, y3, by omega, by go_num, HN, below_drewN' hBx _, b10.gr (gr_drewN _ _)⟩, by simp [intOf]; omega⟩
    · obtain rfl : k = cs.length := by omega
      go_wp2
      exact H.out _ _ _ _ _ _ _ _ _ _ _ _ _ _ _ _ _ _ _ _ _ _ _ _ _ y0 y1 y2 y3 wr HI.out hBx b10
end Go.Proofs.YtidgeagpgllkeaaGreat
