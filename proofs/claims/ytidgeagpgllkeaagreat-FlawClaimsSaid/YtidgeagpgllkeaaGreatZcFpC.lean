/- Contract: the marks of the second list that are like one of the first list, as an iterator. -/
import Derived.RangeFuncBox
import Derived.RangeFuncLeaves
import Derived.RangeFuncNested
import Derived.Shelf.Abstract
import Derived.WalkKit
import Derived.OwnWalkIn
import Derived.TacticsInMore
import Derived.LoopNIn
import Derived.LoopIn
import Derived.Test.YtidgeagpgllkeaaGreatZcRgI
import Derived.Test.YtidgeagpgllkeaaGreatZcFpB
namespace Go.Proofs.YtidgeagpgllkeaaGreat
open Go.RowKit Go.Shelf

attribute [local go_sem] Oper.semAt_some

/-- The numbers below k that are like. -/
def likeV (R : Nat → Bool) (k : Nat) : List Nat := (List.range k).filter R
theorem likeV_succ (R : Nat → Bool) (k : Nat) : likeV R (k + 1) = likeV R k ++ if R k = true then [k] else [] := by
  unfold likeV
  rw [List.range_succ, List.filter_append, List.filter_cons, List.filter_nil]
theorem likeV_len (R : Nat → Bool) (k : Nat) : (likeV R k).length ≤ k := by
  unfold likeV; exact Nat.le_trans (List.length_filter_le _ _) (by simp)
theorem likeV_prefix (R : Nat → Bool) {j k : Nat} (h : j ≤ k) : likeV R j <+: likeV R k := by
  induction k with
  | zero => obtain rfl : j = 0 := by omega
            exact List.prefix_refl _
  | succ k ih =>
    by_cases h' : j = k + 1
    · rw [h']; exact List.prefix_refl _
    · rw [likeV_succ]; exact (ih (by omega)).trans (List.prefix_append _ _)
/-- What the iterator reads lies as it lay. -/
structure KL (Bm Bi q B : Nat) (W W' : World) : Prop where
  m : W'.heap[Bm]? = W.heap[Bm]?
  i : W'.heap[Bi]? = W.heap[Bi]?
  q : W'.heap[q]? = W.heap[q]?
  low : ∀ k, k < B → W'.heap[k]? = W.heap[k]?
  size : W.heap.size ≤ W'.heap.size
theorem KL.refl (Bm Bi q B : Nat) (W : World) : KL Bm Bi q B W W := ⟨rfl, rfl, rfl, fun _ _ => rfl, Nat.le_refl _⟩
theorem KL.trans {Bm Bi q B : Nat} {X Y Z : World} (h : KL Bm Bi q B X Y) (k : KL Bm Bi q B Y Z) : KL Bm Bi q B X Z := ⟨k.m.trans h.m, k.i.trans h.i, k.q.trans h.q, fun j hj => (k.low j hj).trans (h.low j hj), Nat.le_trans h.size k.size⟩
theorem KL.gr {Bm Bi q B : Nat} {W W' : World} (h : Gr W W') (hm : Bm < W.heap.size) (hi : Bi < W.heap.size) (hq : q < W.heap.size) (hB : B ≤ W.heap.size) : KL Bm Bi q B W W' := ⟨h.block _ hm, h.block _ hi, h.block _ hq, fun k hk => h.block k (by omega), Below.size h⟩
/-- What the iterator reads: the boxes, the lists. -/
structure LkM (Bm Bi q B i : Nat) (l0 l1 : List Mk) (A0 A1 : Option Addr) (c0 c1 : Nat) (slack : Int) (W : World) : Prop where
  cm : W.cell? ⟨Bm, 0, none⟩ = some (.pointer (some ⟨q, 0, none⟩))
  ci : W.cell? ⟨Bi, 0, none⟩ = some (.int .i64 i)
  q0 : W.cell? ⟨q, 0, none⟩ = some (.slice A0 l0.length c0)
  q1 : W.cell? ⟨q, 1, none⟩ = some (.slice A1 l1.length c1)
  q2 : W.cell? ⟨q, 2, none⟩ = some (.int .i64 slack)
  r0 : Row W B 6 A0 l0.length (mksC l0)
  r1 : Row W B 6 A1 l1.length (mksC l1)
  base : B ≤ W.heap.size
section
variable {Bm Bi q B i c0 c1 : Nat} {l0 l1 : List Mk} {A0 A1 : Option Addr} {slack : Int} {W W' : World}
theorem LkM.ltm (h : LkM Bm Bi q B i l0 l1 A0 A1 c0 c1 slack W) : Bm < W.heap.size := World.block_lt_of_cell? _ _ h.cm
theorem LkM.lti (h : LkM Bm Bi q B i l0 l1 A0 A1 c0 c1 slack W) : Bi < W.heap.size := World.block_lt_of_cell? _ _ h.ci
theorem LkM.ltq (h : LkM Bm Bi q B i l0 l1 A0 A1 c0 c1 slack W) : q < W.heap.size := World.block_lt_of_cell? _ _ h.q0
theorem LkM.kl (h : LkM Bm Bi q B i l0 l1 A0 A1 c0 c1 slack W) (k : KL Bm Bi q B W W') : LkM Bm Bi q B i l0 l1 A0 A1 c0 c1 slack W' :=
  ⟨(World.cell?_of_block k.m).trans h.cm, (World.cell?_of_block k.i).trans h.ci, (World.cell?_of_block k.q).trans h.q0, (World.cell?_of_block k.q).trans h.q1, (World.cell?_of_block k.q).trans h.q2, h.r0.keep fun b o hb => World.cell?_of_block (k.low b hb), h.r1.keep fun b o hb => World.cell?_of_block (k.low b hb), Nat.le_trans h.base k.size⟩
theorem LkM.gr (h : LkM Bm Bi q B i l0 l1 A0 A1 c0 c1 slack W) (k : Gr W W') : LkM Bm Bi q B i l0 l1 A0 A1 c0 c1 slack W' := h.kl (KL.gr k h.ltm h.lti h.ltq h.base)
end
def mkZ : Mk := ⟨ByteArray.empty, 0, 0, 0, 0, 0⟩
abbrev LikeK (R : Nat → Bool) (N : Nat) := { k : Nat // k < N ∧ R k = true }
def likeR (l0 l1 : List Mk) (i : Nat) (slack : Int) (k : Nat) : Bool := alikeV (l0[i]?.getD mkZ) (l1[k]?.getD mkZ) slack

set_option maxRecDepth 100000 in
set_option maxHeartbeats 4000000 in
theorem like1_in (n : Nat) (hn : 1 ≤ n) (l Bm Bi q B : Nat) (l0 l1 : List Mk) (A0 A1 : Option Addr) (c0 c1 i : Nat) (slack : Int) (hi : i < l0.length) (hl1 : l1.length ≤ 1000) (hl0 : l0.length ≤ 1000) (HS : Hid (MkS (l0[i]?.getD mkZ) ∧ ∀ m ∈ l1, MkS m)) (J Jx : List (LikeK (likeR l0 l1 i slack) l1.length) → World → Prop)
    (hJ : ∀ pre X Y, J pre X → Gr X Y → J pre Y)
    (hY : ∀ pre (x : LikeK (likeR l0 l1 i slack) l1.length) W, J pre W → pre.length < l1.length → YieldAt Fence.wide (n - 1) Tryz.prog l #[.int .i64 x.1] W fun e W' =>
      (e = .returned (.bool true) ∧ J (pre ++ [x]) W' ∧ KL Bm Bi q B W W') ∨ (e = .returned (.bool false) ∧ Jx (pre ++ [x]) W'))
    (W : World) (M : LkM Bm Bi q B i l0 l1 A0 A1 c0 c1 slack W) (h0 : J [] W) :
    CallsIn Fence.wide n Tryz.prog 159 #[.func (.yield l) #[] #[], .pointer (some ⟨Bm, 0, none⟩), .pointer (some ⟨Bi, 0, none⟩)] W fun e W' => (∃ v, e = .returned v) ∧
      ((∃ ys : List (LikeK (likeR l0 l1 i slack) l1.length), ys.map (·.1) = likeV (likeR l0 l1 i slack) l1.length ∧ J ys W') ∨ (∃ pre : List (LikeK (likeR l0 l1 i slack) l1.length), pre.map (·.1) <+: likeV (likeR l0 l1 i slack) l1.length ∧ Jx pre W')) := by
  refine callsIn_of_wp Tryz.func159 rfl trivial ?_ rfl
  simp only [Tryz.ntmps159, List.size_toArray, List.length_cons, List.length_nil, Nat.reduceAdd, Nat.reduceSub, Array.replicate_succ, Array.replicate_zero, List.push_toArray, List.append_toArray, List.nil_append, List.cons_append]
  have f0 := M.cm; have f1 := M.q1; have lm := M.ltm; have lq := M.ltq
  gi_wp2
  clear f0 f1 lm lq
  gi_loopw [12] (fun s12 wr => ∃ (k : Nat) (pre : List (LikeK (likeR l0 l1 i slack) l1.length)), k ≤ l1.length ∧ s12 = .int .i64 k ∧ Hid (pre.map (·.1) = likeV (likeR l0 l1 i slack) k) ∧ J pre wr ∧ LkM Bm Bi q B i l0 l1 A0 A1 c0 c1 slack wr) (fun s12 _ => l1.length - (intOf s12).toNat)
  case atStart => exact ⟨0, [], by omega, rfl, Lib.hid rfl, h0, M⟩
  case round =>
    clear M h0
    obtain ⟨k, pre, hk, rfl, hp, hJw, M⟩ := hrel
    by_cases hlt : k < l1.length
    · have i1 : ((k : Int) < (l1.length : Int)) := by omega
      have i2 : ((i : Int) < (l0.length : Int)) := by omega
      obtain ⟨g1, o1, hA1, hg1, x0, x1, x2, x3, x4, x5⟩ := mkCells M.r1 hlt
      obtain ⟨g0, o0, hA0, hg0, y0, y1, y2, y3, y4, y5⟩ := mkCells M.r0 hi
      subst hA1
      subst hA0
      have HSX : Hid (MkS l1[k]) := Lib.hid (HS.out.2 _ (List.getElem_mem hlt))
      have HSY : Hid (MkS l0[i]) := Lib.hid (by have := HS.out.1; rwa [List.getElem?_eq_getElem hi] at this)
      have hR : likeR l0 l1 i slack k = alikeV l0[i] l1[k] slack := by unfold likeR; rw [List.getElem?_eq_getElem hi, List.getElem?_eq_getElem hlt]; rfl
      have hlen : pre.length < l1.length := by
        have h1 := likeV_len (likeR l0 l1 i slack) k
        rw [← hp.out, List.length_map] at h1
        omega
      have HST := Lib.hid (likeV_succ (likeR l0 l1 i slack) k)
      obtain ⟨x, hx⟩ : ∃ x, l1[k] = x := ⟨_, rfl⟩
      obtain ⟨y, hy⟩ : ∃ y, l0[i] = y := ⟨_, rfl⟩
      rw [hx] at x0 x1 x2 x3 x4 x5 HSX
      rw [hy] at y0 y1 y2 y3 y4 y5 HSY
      rw [hx, hy] at hR
      have hB := M.base
      have lg1 : g1 < wr.heap.size := by omega
      have lg0 : g0 < wr.heap.size := by omega
      have f0 := M.cm; have f1 := M.q0; have f2 := M.ci; have f3 := M.q2; have lm := M.ltm; have lq := M.ltq; have li := M.lti
      have HPM : Hid (∀ t : World, t = t) := Lib.hid fun _ => rfl
      have hmix : Tryz.prog.follows .mixedOrders = true := by kernel_rfl
      have hgA : ∀ o, Gr wr (wr.alloc o).drew := fun o => ((Below.refl _ _).alloc (Nat.le_refl _) o).drew
      have HJ := Lib.hid hJw
      have HM := Lib.hid M
      clear hJw M
      cases hRk : likeR l0 l1 i slack k
      · rw [hRk] at hR
        have HA : Hid (alikeV y x slack = false) := Lib.hid hR.symm
        have HP : Hid (pre.map (·.1) = likeV (likeR l0 l1 i slack) (k + 1)) := Lib.hid (by rw [HST.out, hRk, hp.out]; simp)
        clear hR HST hRk
        gi_wp2_with fail
        have b5 := Blk.new wr 79 #[.string x.nm, .int .i64 x.al, .int .i64 x.ah, .int .i64 x.dl, .int .i64 x.dh, .int .i64 x.lv]
        have hgB : Gr wr (wr.alloc (.cells #[.string x.nm, .int .i64 x.al, .int .i64 x.ah, .int .i64 x.dl, .int .i64 x.dh, .int .i64 x.lv] 79)) := (Below.refl _ _).alloc (Nat.le_refl _) _
        obtain ⟨e0, e1, e2, e3, e4, e5, e6⟩ := blk6 b5
        have lb5 := b5.lt
        have MB := HM.out.gr hgB
        have f0 := MB.cm; have f1 := MB.q0; have f2 := MB.ci; have f3 := MB.q2; have lm := MB.ltm; have lq := MB.ltq; have li := MB.lti
        obtain ⟨_, _, hA0', _, y0, y1, y2, y3, y4, y5⟩ := mkCells MB.r0 hi
        simp only [Option.some.injEq, Addr.mk.injEq, true_and, and_true] at hA0'
        obtain ⟨rfl, rfl⟩ := hA0'
        rw [hy] at y0 y1 y2 y3 y4 y5
        have lg0 := Nat.lt_of_lt_of_le lg0 (Below.size hgB)
        obtain ⟨WB, hWB⟩ : ∃ WB, wr.alloc (.cells #[.string x.nm, .int .i64 x.al, .int .i64 x.ah, .int .i64 x.dl, .int .i64 x.dh, .int .i64 x.lv] 79) = WB := ⟨_, rfl⟩
        rw [hWB] at b5 hgB e0 e1 e2 e3 e4 e5 e6 lb5 MB f0 f1 f2 f3 lm lq li y0 y1 y2 y3 y4 y5 lg0 ⊢
        have HGB := Lib.hid hgB
        clear hWB b5 MB hgB
        refine wpIn_region_w 13 (Gr _) (by kernel_rfl) (Below.refl _ _).drew ?_
        refine wpWI_det (t' := ?ct0R1) (l := [12, 11, 10, 9, 8, 7, 6, 5, 4, 3, 2, 1, 0]) 0 (by kernel_rfl) (by decide) (by rfl) (by kernel_rfl) (NQ_free _) (by kernel_rfl) ?cw0R1 ?ch0R1 ?ca0R1 (Eq.refl _) ?cH0R1
        case cw0R1 => (go_simp; done)
        case ch0R1 =>
          intro ds w' hS K hK
          have hc := (bcell hS).1
          have hf := (bcell hS).2
          have hz := hS.size
          try simp at hz
          go_simp
          try go_bits
          first
            | exact hK _ hS (Gr.refl _)
            | exact hK _ (by repeat (first | (with_reducible exact Below.refl _ _) | (with_reducible assumption) | ((with_reducible refine Below.setCell ?_ ?_ _); rotate_left; · (first | exact Nat.le_refl _ | (simp; done) | (simp; omega) | omega)) | ((with_reducible refine Below.alloc ?_ ?_ _); rotate_left; · (first | exact Nat.le_refl _ | (simp; done) | (simp; omega) | omega)) | (with_reducible apply Below.drew) | (with_reducible apply below_drewN') | (refine Below.trans ?_ (Below.mono (by assumption) (by first | exact Nat.le_refl _ | (simp; done) | (simp; omega) | omega))) | exact Below.refl _ _ | assumption)) (by repeat (first | (with_reducible exact Below.refl _ _) | (with_reducible assumption) | ((with_reducible refine Below.setCell ?_ ?_ _); rotate_left; · (first | exact Nat.le_refl _ | (simp; done) | (simp; omega) | omega)) | ((with_reducible refine Below.alloc ?_ ?_ _); rotate_left; · (first | exact Nat.le_refl _ | (simp; done) | (simp; omega) | omega)) | (with_reducible apply Below.drew) | (with_reducible apply below_drewN') | (refine Below.trans ?_ (Below.mono (by assumption) (by first | exact Nat.le_refl _ | (simp; done) | (simp; omega) | omega))) | exact Below.refl _ _ | assumption))
        case ca0R1 => (first | (simp [Act.put]; done) | (simp [Act.put, *]; done))
        try dsimp only
        refine wpWI_det (t' := ?ct1R1) (l := [12, 11, 10, 9, 8, 7, 6, 5, 4, 3, 2, 1, 0]) 1 (by kernel_rfl) (by decide) (by rfl) (by kernel_rfl) (NQ_free _) (by kernel_rfl) ?cw1R1 ?ch1R1 ?ca1R1 (Eq.refl _) ?cH1R1
        case cw1R1 => (go_simp; done)
        case ch1R1 =>
          intro ds w' hS K hK
          have hc := (bcell hS).1
          have hf := (bcell hS).2
          have hz := hS.size
          try simp at hz
          go_simp
          try go_bits
          first
            | exact hK _ hS (Gr.refl _)
            | exact hK _ (by repeat (first | (with_reducible exact Below.refl _ _) | (with_reducible assumption) | ((with_reducible refine Below.setCell ?_ ?_ _); rotate_left; · (first | exact Nat.le_refl _ | (simp; done) | (simp; omega) | omega)) | ((with_reducible refine Below.alloc ?_ ?_ _); rotate_left; · (first | exact Nat.le_refl _ | (simp; done) | (simp; omega) | omega)) | (with_reducible apply Below.drew) | (with_reducible apply below_drewN') | (refine Below.trans ?_ (Below.mono (by assumption) (by first | exact Nat.le_refl _ | (simp; done) | (simp; omega) | omega))) | exact Below.refl _ _ | assumption)) (by repeat (first | (with_reducible exact Below.refl _ _) | (with_reducible assumption) | ((with_reducible refine Below.setCell ?_ ?_ _); rotate_left; · (first | exact Nat.le_refl _ | (simp; done) | (simp; omega) | omega)) | ((with_reducible refine Below.alloc ?_ ?_ _); rotate_left; · (first | exact Nat.le_refl _ | (simp; done) | (simp; omega) | omega)) | (with_reducible apply Below.drew) | (with_reducible apply below_drewN') | (refine Below.trans ?_ (Below.mono (by assumption) (by first | exact Nat.le_refl _ | (simp; done) | (simp; omega) | omega))) | exact Below.refl _ _ | assumption))
        case ca1R1 => (first | (simp [Act.put]; done) | (simp [Act.put, *]; done))
        try dsimp only
        refine wpWI_det (t' := ?ct2R1) (l := [12, 11, 10, 9, 8, 7, 6, 5, 4, 3, 2, 1, 0]) 2 (by kernel_rfl) (by decide) (by rfl) (by kernel_rfl) (NQ_free _) (by kernel_rfl) ?cw2R1 ?ch2R1 ?ca2R1 (Eq.refl _) ?cH2R1
        case cw2R1 => (go_simp; done)
        case ch2R1 =>
          intro ds w' hS K hK
          have hc := (bcell hS).1
          have hf := (bcell hS).2
          have hz := hS.size
          try simp at hz
          go_simp
          try go_bits
          first
            | exact hK _ hS (Gr.refl _)
            | exact hK _ (by repeat (first | (with_reducible exact Below.refl _ _) | (with_reducible assumption) | ((with_reducible refine Below.setCell ?_ ?_ _); rotate_left; · (first | exact Nat.le_refl _ | (simp; done) | (simp; omega) | omega)) | ((with_reducible refine Below.alloc ?_ ?_ _); rotate_left; · (first | exact Nat.le_refl _ | (simp; done) | (simp; omega) | omega)) | (with_reducible apply Below.drew) | (with_reducible apply below_drewN') | (refine Below.trans ?_ (Below.mono (by assumption) (by first | exact Nat.le_refl _ | (simp; done) | (simp; omega) | omega))) | exact Below.refl _ _ | assumption)) (by repeat (first | (with_reducible exact Below.refl _ _) | (with_reducible assumption) | ((with_reducible refine Below.setCell ?_ ?_ _); rotate_left; · (first | exact Nat.le_refl _ | (simp; done) | (simp; omega) | omega)) | ((with_reducible refine Below.alloc ?_ ?_ _); rotate_left; · (first | exact Nat.le_refl _ | (simp; done) | (simp; omega) | omega)) | (with_reducible apply Below.drew) | (with_reducible apply below_drewN') | (refine Below.trans ?_ (Below.mono (by assumption) (by first | exact Nat.le_refl _ | (simp; done) | (simp; omega) | omega))) | exact Below.refl _ _ | assumption))
        case ca2R1 => (first | (simp [Act.put]; done) | (simp [Act.put, *]; done))
        try dsimp only
        refine wpWI_det (t' := ?ct3R1) (l := [12, 11, 10, 9, 8, 7, 6, 5, 4, 3, 2, 1, 0]) 3 (by kernel_rfl) (by decide) (by rfl) (by kernel_rfl) (NQ_free _) (by kernel_rfl) ?cw3R1 ?ch3R1 ?ca3R1 (Eq.refl _) ?cH3R1
        case cw3R1 => (go_simp; done)
        case ch3R1 =>
          intro ds w' hS K hK
          have hc := (bcell hS).1
          have hf := (bcell hS).2
          have hz := hS.size
          try simp at hz
          go_simp
          try go_bits
          first
            | exact hK _ hS (Gr.refl _)
            | exact hK _ (by repeat (first | (with_reducible exact Below.refl _ _) | (with_reducible assumption) | ((with_reducible refine Below.setCell ?_ ?_ _); rotate_left; · (first | exact Nat.le_refl _ | (simp; done) | (simp; omega) | omega)) | ((with_reducible refine Below.alloc ?_ ?_ _); rotate_left; · (first | exact Nat.le_refl _ | (simp; done) | (simp; omega) | omega)) | (with_reducible apply Below.drew) | (with_reducible apply below_drewN') | (refine Below.trans ?_ (Below.mono (by assumption) (by first | exact Nat.le_refl _ | (simp; done) | (simp; omega) | omega))) | exact Below.refl _ _ | assumption)) (by repeat (first | (with_reducible exact Below.refl _ _) | (with_reducible assumption) | ((with_reducible refine Below.setCell ?_ ?_ _); rotate_left; · (first | exact Nat.le_refl _ | (simp; done) | (simp; omega) | omega)) | ((with_reducible refine Below.alloc ?_ ?_ _); rotate_left; · (first | exact Nat.le_refl _ | (simp; done) | (simp; omega) | omega)) | (with_reducible apply Below.drew) | (with_reducible apply below_drewN') | (refine Below.trans ?_ (Below.mono (by assumption) (by first | exact Nat.le_refl _ | (simp; done) | (simp; omega) | omega))) | exact Below.refl _ _ | assumption))
        case ca3R1 => (first | (simp [Act.put]; done) | (simp [Act.put, *]; done))
        try dsimp only
        refine wpWI_det (t' := ?ct4R1) (l := [12, 11, 10, 9, 8, 7, 6, 5, 4, 3, 2, 1, 0]) 4 (by kernel_rfl) (by decide) (by rfl) (by kernel_rfl) (NQ_free _) (by kernel_rfl) ?cw4R1 ?ch4R1 ?ca4R1 (Eq.refl _) ?cH4R1
        case cw4R1 => (go_simp; done)
        case ch4R1 =>
          intro ds w' hS K hK
          have hc := (bcell hS).1
          have hf := (bcell hS).2
          have hz := hS.size
          try simp at hz
          go_simp
          try go_bits
          first
            | exact hK _ hS (Gr.refl _)
            | exact hK _ (by repeat (first | (with_reducible exact Below.refl _ _) | (with_reducible assumption) | ((with_reducible refine Below.setCell ?_ ?_ _); rotate_left; · (first | exact Nat.le_refl _ | (simp; done) | (simp; omega) | omega)) | ((with_reducible refine Below.alloc ?_ ?_ _); rotate_left; · (first | exact Nat.le_refl _ | (simp; done) | (simp; omega) | omega)) | (with_reducible apply Below.drew) | (with_reducible apply below_drewN') | (refine Below.trans ?_ (Below.mono (by assumption) (by first | exact Nat.le_refl _ | (simp; done) | (simp; omega) | omega))) | exact Below.refl _ _ | assumption)) (by repeat (first | (with_reducible exact Below.refl _ _) | (with_reducible assumption) | ((with_reducible refine Below.setCell ?_ ?_ _); rotate_left; · (first | exact Nat.le_refl _ | (simp; done) | (simp; omega) | omega)) | ((with_reducible refine Below.alloc ?_ ?_ _); rotate_left; · (first | exact Nat.le_refl _ | (simp; done) | (simp; omega) | omega)) | (with_reducible apply Below.drew) | (with_reducible apply below_drewN') | (refine Below.trans ?_ (Below.mono (by assumption) (by first | exact Nat.le_refl _ | (simp; done) | (simp; omega) | omega))) | exact Below.refl _ _ | assumption))
        case ca4R1 => (first | (simp [Act.put]; done) | (simp [Act.put, *]; done))
        try dsimp only
        refine wpWI_det (t' := ?ct5R1) (l := [12, 11, 10, 9, 8, 7, 6, 5, 4, 3, 2, 1, 0]) 5 (by kernel_rfl) (by decide) (by rfl) (by kernel_rfl) (NQ_free _) (by kernel_rfl) ?cw5R1 ?ch5R1 ?ca5R1 (Eq.refl _) ?cH5R1
        case cw5R1 => (go_simp; done)
        case ch5R1 =>
          intro ds w' hS K hK
          have hc := (bcell hS).1
          have hf := (bcell hS).2
          have hz := hS.size
          try simp at hz
          go_simp
          try go_bits
          first
            | exact hK _ hS (Gr.refl _)
            | exact hK _ (by repeat (first | (with_reducible exact Below.refl _ _) | (with_reducible assumption) | ((with_reducible refine Below.setCell ?_ ?_ _); rotate_left; · (first | exact Nat.le_refl _ | (simp; done) | (simp; omega) | omega)) | ((with_reducible refine Below.alloc ?_ ?_ _); rotate_left; · (first | exact Nat.le_refl _ | (simp; done) | (simp; omega) | omega)) | (with_reducible apply Below.drew) | (with_reducible apply below_drewN') | (refine Below.trans ?_ (Below.mono (by assumption) (by first | exact Nat.le_refl _ | (simp; done) | (simp; omega) | omega))) | exact Below.refl _ _ | assumption)) (by repeat (first | (with_reducible exact Below.refl _ _) | (with_reducible assumption) | ((with_reducible refine Below.setCell ?_ ?_ _); rotate_left; · (first | exact Nat.le_refl _ | (simp; done) | (simp; omega) | omega)) | ((with_reducible refine Below.alloc ?_ ?_ _); rotate_left; · (first | exact Nat.le_refl _ | (simp; done) | (simp; omega) | omega)) | (with_reducible apply Below.drew) | (with_reducible apply below_drewN') | (refine Below.trans ?_ (Below.mono (by assumption) (by first | exact Nat.le_refl _ | (simp; done) | (simp; omega) | omega))) | exact Below.refl _ _ | assumption))
        case ca5R1 => (first | (simp [Act.put]; done) | (simp [Act.put, *]; done))
        try dsimp only
        refine wpWI_det (t' := ?ct6R1) (l := [12, 11, 10, 9, 8, 7, 6, 5, 4, 3, 2, 1, 0]) 6 (by kernel_rfl) (by decide) (by rfl) (by kernel_rfl) (NQ_free _) (by kernel_rfl) ?cw6R1 ?ch6R1 ?ca6R1 (Eq.refl _) ?cH6R1
        case cw6R1 => (go_simp; done)
        case ch6R1 =>
          intro ds w' hS K hK
          have hc := (bcell hS).1
          have hf := (bcell hS).2
          have hz := hS.size
          try simp at hz
          go_simp
          try go_bits
          first
            | exact hK _ hS (Gr.refl _)
            | exact hK _ (by repeat (first | (with_reducible exact Below.refl _ _) | (with_reducible assumption) | ((with_reducible refine Below.setCell ?_ ?_ _); rotate_left; · (first | exact Nat.le_refl _ | (simp; done) | (simp; omega) | omega)) | ((with_reducible refine Below.alloc ?_ ?_ _); rotate_left; · (first | exact Nat.le_refl _ | (simp; done) | (simp; omega) | omega)) | (with_reducible apply Below.drew) | (with_reducible apply below_drewN') | (refine Below.trans ?_ (Below.mono (by assumption) (by first | exact Nat.le_refl _ | (simp; done) | (simp; omega) | omega))) | exact Below.refl _ _ | assumption)) (by repeat (first | (with_reducible exact Below.refl _ _) | (with_reducible assumption) | ((with_reducible refine Below.setCell ?_ ?_ _); rotate_left; · (first | exact Nat.le_refl _ | (simp; done) | (simp; omega) | omega)) | ((with_reducible refine Below.alloc ?_ ?_ _); rotate_left; · (first | exact Nat.le_refl _ | (simp; done) | (simp; omega) | omega)) | (with_reducible apply Below.drew) | (with_reducible apply below_drewN') | (refine Below.trans ?_ (Below.mono (by assumption) (by first | exact Nat.le_refl _ | (simp; done) | (simp; omega) | omega))) | exact Below.refl _ _ | assumption))
        case ca6R1 => (first | (simp [Act.put]; done) | (simp [Act.put, *]; done))
        try dsimp only
        refine wpWI_det (t' := ?ct7R1) (l := [12, 11, 10, 9, 8, 7, 6, 5, 4, 3, 2, 1, 0]) 7 (by kernel_rfl) (by decide) (by rfl) (by kernel_rfl) (NQ_free _) (by kernel_rfl) ?cw7R1 ?ch7R1 ?ca7R1 (Eq.refl _) ?cH7R1
        case cw7R1 => (go_simp; done)
        case ch7R1 =>
          intro ds w' hS K hK
          have hc := (bcell hS).1
          have hf := (bcell hS).2
          have hz := hS.size
          try simp at hz
          go_simp
          try go_bits
          first
            | exact hK _ hS (Gr.refl _)
            | exact hK _ (by repeat (first | (with_reducible exact Below.refl _ _) | (with_reducible assumption) | ((with_reducible refine Below.setCell ?_ ?_ _); rotate_left; · (first | exact Nat.le_refl _ | (simp; done) | (simp; omega) | omega)) | ((with_reducible refine Below.alloc ?_ ?_ _); rotate_left; · (first | exact Nat.le_refl _ | (simp; done) | (simp; omega) | omega)) | (with_reducible apply Below.drew) | (with_reducible apply below_drewN') | (refine Below.trans ?_ (Below.mono (by assumption) (by first | exact Nat.le_refl _ | (simp; done) | (simp; omega) | omega))) | exact Below.refl _ _ | assumption)) (by repeat (first | (with_reducible exact Below.refl _ _) | (with_reducible assumption) | ((with_reducible refine Below.setCell ?_ ?_ _); rotate_left; · (first | exact Nat.le_refl _ | (simp; done) | (simp; omega) | omega)) | ((with_reducible refine Below.alloc ?_ ?_ _); rotate_left; · (first | exact Nat.le_refl _ | (simp; done) | (simp; omega) | omega)) | (with_reducible apply Below.drew) | (with_reducible apply below_drewN') | (refine Below.trans ?_ (Below.mono (by assumption) (by first | exact Nat.le_refl _ | (simp; done) | (simp; omega) | omega))) | exact Below.refl _ _ | assumption))
        case ca7R1 => (first | (simp [Act.put]; done) | (simp [Act.put, *]; done))
        try dsimp only
        refine wpWI_det (t' := ?ct8R1) (l := [12, 11, 10, 9, 8, 7, 6, 5, 4, 3, 2, 1, 0]) 8 (by kernel_rfl) (by decide) (by rfl) (by kernel_rfl) (NQ_free _) (by kernel_rfl) ?cw8R1 ?ch8R1 ?ca8R1 (Eq.refl _) ?cH8R1
        case cw8R1 => (go_simp; done)
        case ch8R1 =>
          intro ds w' hS K hK
          have hc := (bcell hS).1
          have hf := (bcell hS).2
          have hz := hS.size
          try simp at hz
          go_simp
          try go_bits
          first
            | exact hK _ hS (Gr.refl _)
            | exact hK _ (by repeat (first | (with_reducible exact Below.refl _ _) | (with_reducible assumption) | ((with_reducible refine Below.setCell ?_ ?_ _); rotate_left; · (first | exact Nat.le_refl _ | (simp; done) | (simp; omega) | omega)) | ((with_reducible refine Below.alloc ?_ ?_ _); rotate_left; · (first | exact Nat.le_refl _ | (simp; done) | (simp; omega) | omega)) | (with_reducible apply Below.drew) | (with_reducible apply below_drewN') | (refine Below.trans ?_ (Below.mono (by assumption) (by first | exact Nat.le_refl _ | (simp; done) | (simp; omega) | omega))) | exact Below.refl _ _ | assumption)) (by repeat (first | (with_reducible exact Below.refl _ _) | (with_reducible assumption) | ((with_reducible refine Below.setCell ?_ ?_ _); rotate_left; · (first | exact Nat.le_refl _ | (simp; done) | (simp; omega) | omega)) | ((with_reducible refine Below.alloc ?_ ?_ _); rotate_left; · (first | exact Nat.le_refl _ | (simp; done) | (simp; omega) | omega)) | (with_reducible apply Below.drew) | (with_reducible apply below_drewN') | (refine Below.trans ?_ (Below.mono (by assumption) (by first | exact Nat.le_refl _ | (simp; done) | (simp; omega) | omega))) | exact Below.refl _ _ | assumption))
        case ca8R1 => (first | (simp [Act.put]; done) | (simp [Act.put, *]; done))
        try dsimp only
        refine wpWI_det (t' := ?ct9R1) (l := [12, 11, 10, 9, 8, 7, 6, 5, 4, 3, 2, 1, 0]) 9 (by kernel_rfl) (by decide) (by rfl) (by kernel_rfl) (NQ_free _) (by kernel_rfl) ?cw9R1 ?ch9R1 ?ca9R1 (Eq.refl _) ?cH9R1
        case cw9R1 => (go_simp; done)
        case ch9R1 =>
          intro ds w' hS K hK
          have hc := (bcell hS).1
          have hf := (bcell hS).2
          have hz := hS.size
          try simp at hz
          go_simp
          try go_bits
          first
            | exact hK _ hS (Gr.refl _)
            | exact hK _ (by repeat (first | (with_reducible exact Below.refl _ _) | (with_reducible assumption) | ((with_reducible refine Below.setCell ?_ ?_ _); rotate_left; · (first | exact Nat.le_refl _ | (simp; done) | (simp; omega) | omega)) | ((with_reducible refine Below.alloc ?_ ?_ _); rotate_left; · (first | exact Nat.le_refl _ | (simp; done) | (simp; omega) | omega)) | (with_reducible apply Below.drew) | (with_reducible apply below_drewN') | (refine Below.trans ?_ (Below.mono (by assumption) (by first | exact Nat.le_refl _ | (simp; done) | (simp; omega) | omega))) | exact Below.refl _ _ | assumption)) (by repeat (first | (with_reducible exact Below.refl _ _) | (with_reducible assumption) | ((with_reducible refine Below.setCell ?_ ?_ _); rotate_left; · (first | exact Nat.le_refl _ | (simp; done) | (simp; omega) | omega)) | ((with_reducible refine Below.alloc ?_ ?_ _); rotate_left; · (first | exact Nat.le_refl _ | (simp; done) | (simp; omega) | omega)) | (with_reducible apply Below.drew) | (with_reducible apply below_drewN') | (refine Below.trans ?_ (Below.mono (by assumption) (by first | exact Nat.le_refl _ | (simp; done) | (simp; omega) | omega))) | exact Below.refl _ _ | assumption))
        case ca9R1 => (first | (simp [Act.put]; done) | (simp [Act.put, *]; done))
        try dsimp only
        refine wpWI_det (t' := ?ct10R1) (l := [12, 11, 10, 9, 8, 7, 6, 5, 4, 3, 2, 1, 0]) 10 (by kernel_rfl) (by decide) (by rfl) (by kernel_rfl) (NQ_free _) (by kernel_rfl) ?cw10R1 ?ch10R1 ?ca10R1 (Eq.refl _) ?cH10R1
        case cw10R1 => (go_simp; done)
        case ch10R1 =>
          intro ds w' hS K hK
          have hc := (bcell hS).1
          have hf := (bcell hS).2
          have hz := hS.size
          try simp at hz
          go_simp
          try go_bits
          first
            | exact hK _ hS (Gr.refl _)
            | exact hK _ (by repeat (first | (with_reducible exact Below.refl _ _) | (with_reducible assumption) | ((with_reducible refine Below.setCell ?_ ?_ _); rotate_left; · (first | exact Nat.le_refl _ | (simp; done) | (simp; omega) | omega)) | ((with_reducible refine Below.alloc ?_ ?_ _); rotate_left; · (first | exact Nat.le_refl _ | (simp; done) | (simp; omega) | omega)) | (with_reducible apply Below.drew) | (with_reducible apply below_drewN') | (refine Below.trans ?_ (Below.mono (by assumption) (by first | exact Nat.le_refl _ | (simp; done) | (simp; omega) | omega))) | exact Below.refl _ _ | assumption)) (by repeat (first | (with_reducible exact Below.refl _ _) | (with_reducible assumption) | ((with_reducible refine Below.setCell ?_ ?_ _); rotate_left; · (first | exact Nat.le_refl _ | (simp; done) | (simp; omega) | omega)) | ((with_reducible refine Below.alloc ?_ ?_ _); rotate_left; · (first | exact Nat.le_refl _ | (simp; done) | (simp; omega) | omega)) | (with_reducible apply Below.drew) | (with_reducible apply below_drewN') | (refine Below.trans ?_ (Below.mono (by assumption) (by first | exact Nat.le_refl _ | (simp; done) | (simp; omega) | omega))) | exact Below.refl _ _ | assumption))
        case ca10R1 => (first | (simp [Act.put]; done) | (simp [Act.put, *]; done))
        try dsimp only
        refine wpWI_det (t' := ?ct11R1) (l := [12, 11, 10, 9, 8, 7, 6, 5, 4, 3, 2, 1, 0]) 11 (by kernel_rfl) (by decide) (by rfl) (by kernel_rfl) (NQ_free _) (by kernel_rfl) ?cw11R1 ?ch11R1 ?ca11R1 (Eq.refl _) ?cH11R1
        case cw11R1 => (go_simp; done)
        case ch11R1 =>
          intro ds w' hS K hK
          have hc := (bcell hS).1
          have hf := (bcell hS).2
          have hz := hS.size
          try simp at hz
          go_simp
          try go_bits
          first
            | exact hK _ hS (Gr.refl _)
            | exact hK _ (by repeat (first | (with_reducible exact Below.refl _ _) | (with_reducible assumption) | ((with_reducible refine Below.setCell ?_ ?_ _); rotate_left; · (first | exact Nat.le_refl _ | (simp; done) | (simp; omega) | omega)) | ((with_reducible refine Below.alloc ?_ ?_ _); rotate_left; · (first | exact Nat.le_refl _ | (simp; done) | (simp; omega) | omega)) | (with_reducible apply Below.drew) | (with_reducible apply below_drewN') | (refine Below.trans ?_ (Below.mono (by assumption) (by first | exact Nat.le_refl _ | (simp; done) | (simp; omega) | omega))) | exact Below.refl _ _ | assumption)) (by repeat (first | (with_reducible exact Below.refl _ _) | (with_reducible assumption) | ((with_reducible refine Below.setCell ?_ ?_ _); rotate_left; · (first | exact Nat.le_refl _ | (simp; done) | (simp; omega) | omega)) | ((with_reducible refine Below.alloc ?_ ?_ _); rotate_left; · (first | exact Nat.le_refl _ | (simp; done) | (simp; omega) | omega)) | (with_reducible apply Below.drew) | (with_reducible apply below_drewN') | (refine Below.trans ?_ (Below.mono (by assumption) (by first | exact Nat.le_refl _ | (simp; done) | (simp; omega) | omega))) | exact Below.refl _ _ | assumption))
        case ca11R1 => (first | (simp [Act.put]; done) | (simp [Act.put, *]; done))
        try dsimp only
        refine wpWI_det (t' := ?ct12R1) (l := [12, 11, 10, 9, 8, 7, 6, 5, 4, 3, 2, 1, 0]) 12 (by kernel_rfl) (by decide) (by rfl) (by kernel_rfl) (NQ_free _) (by kernel_rfl) ?cw12R1 ?ch12R1 ?ca12R1 (Eq.refl _) ?cH12R1
        case cw12R1 => (go_simp; done)
        case ch12R1 =>
          intro ds w' hS K hK
          have hc := (bcell hS).1
          have hf := (bcell hS).2
          have hz := hS.size
          try simp at hz
          go_simp
          try go_bits
          first
            | exact hK _ hS (Gr.refl _)
            | exact hK _ (by repeat (first | (with_reducible exact Below.refl _ _) | (with_reducible assumption) | ((with_reducible refine Below.setCell ?_ ?_ _); rotate_left; · (first | exact Nat.le_refl _ | (simp; done) | (simp; omega) | omega)) | ((with_reducible refine Below.alloc ?_ ?_ _); rotate_left; · (first | exact Nat.le_refl _ | (simp; done) | (simp; omega) | omega)) | (with_reducible apply Below.drew) | (with_reducible apply below_drewN') | (refine Below.trans ?_ (Below.mono (by assumption) (by first | exact Nat.le_refl _ | (simp; done) | (simp; omega) | omega))) | exact Below.refl _ _ | assumption)) (by repeat (first | (with_reducible exact Below.refl _ _) | (with_reducible assumption) | ((with_reducible refine Below.setCell ?_ ?_ _); rotate_left; · (first | exact Nat.le_refl _ | (simp; done) | (simp; omega) | omega)) | ((with_reducible refine Below.alloc ?_ ?_ _); rotate_left; · (first | exact Nat.le_refl _ | (simp; done) | (simp; omega) | omega)) | (with_reducible apply Below.drew) | (with_reducible apply below_drewN') | (refine Below.trans ?_ (Below.mono (by assumption) (by first | exact Nat.le_refl _ | (simp; done) | (simp; omega) | omega))) | exact Below.refl _ _ | assumption))
        case ca12R1 => (first | (simp [Act.put]; done) | (simp [Act.put, *]; done))
        try dsimp only
        refine wpWI_stop (by kernel_rfl) ?_
        intro wI hgI hSI
        have hgW : Gr wr wI := Gr.trans HGB.out hSI
        clear e0 e1 e2 e3 e4 e5 e6 lb5 f0 f1 f2 f3 lm lq li y0 y1 y2 y3 y4 y5 lg0 hgI hSI
        refine wpAnyIn_ready (rs := [13]) (by kernel_rfl) (by simp) (AllReadyIn.cons (by rfl) ?_ AllReadyIn.nil)
        intro K hK
        go_simp
        refine ⟨trivial, ?_⟩
        refine (callsIn_wide.2 (alike_any y x slack HSY.out HSX.out _)).mono ?_
        rw [HA.out]
        rintro e W1 ⟨rfl, hB1⟩
        have hG1 := Gr.trans hgW hB1
        dsimp only
        refine hK _ _ ?_
        clear hK K hB1 hgW
        refine wpAnyIn_ready (rs := [14]) (by kernel_rfl) (by simp) (AllReadyIn.cons (by rfl) ?_ AllReadyIn.nil)
        intro K hK
        go_simp
        try simp only [Act.put]
        refine hK _ _ ?_
        clear hK K
        refine wpAnyIn_ready (rs := [15, 16]) (by kernel_rfl) (by simp) (AllReadyIn.cons (by rfl) ?_ (AllReadyIn.cons (by rfl) ?_ AllReadyIn.nil))
        · intro K hK
          go_simp
          try simp only [Act.put]
          refine hK _ _ ?_
          clear hK K
          refine wpAnyIn_ready (rs := [16]) (by kernel_rfl) (by simp) (AllReadyIn.cons (by rfl) ?_ AllReadyIn.nil)
          intro K hK
          go_simp
          try simp only [Act.put]
          refine hK _ _ ?_
          clear hK K
          refine wpAnyIn_ready (rs := [17]) (by kernel_rfl) (by simp) (AllReadyIn.cons (by rfl) ?_ AllReadyIn.nil)
          intro K hK
          go_simp
          try simp only [Act.put]
          refine ⟨fun _ _ => trivial, hK _ _ ?_⟩
          clear hK K
          refine wpAnyIn_ready (rs := [18]) (by kernel_rfl) (by simp) (AllReadyIn.cons (by rfl) ?_ AllReadyIn.nil)
          intro K hK
          go_simp
          try simp only [Act.put]
          refine hK _ _ ?_
          clear hK K
          refine wpAnyIn_ready (rs := [19]) (by kernel_rfl) (by simp) (AllReadyIn.cons (by rfl) ?_ AllReadyIn.nil)
          intro K hK
          go_simp
          try simp only [Act.put]
          refine hK _ _ ?_
          clear hK K
          refine wpAnyIn_done (by kernel_rfl) ?_ _
          unfold NQ
          dsimp only
          gi_wp2
          go_roundw
          case rel => exact ⟨k + 1, pre, by omega, by go_num, HP, hJ _ _ _ HJ.out hG1, HM.out.gr hG1⟩
          case measure => (first | (simp [intOf]; done) | (simp [intOf]; omega))
        · intro K hK
          go_simp
          try simp only [Act.put]
          refine hK _ _ ?_
          clear hK K
          refine wpAnyIn_ready (rs := [15]) (by kernel_rfl) (by simp) (AllReadyIn.cons (by rfl) ?_ AllReadyIn.nil)
          intro K hK
          go_simp
          try simp only [Act.put]
          refine hK _ _ ?_
          clear hK K
          refine wpAnyIn_ready (rs := [17]) (by kernel_rfl) (by simp) (AllReadyIn.cons (by rfl) ?_ AllReadyIn.nil)
          intro K hK
          go_simp
          try simp only [Act.put]
          refine ⟨fun _ _ => trivial, hK _ _ ?_⟩
          clear hK K
          refine wpAnyIn_ready (rs := [18]) (by kernel_rfl) (by simp) (AllReadyIn.cons (by rfl) ?_ AllReadyIn.nil)
          intro K hK
          go_simp
          try simp only [Act.put]
          refine hK _ _ ?_
          clear hK K
          refine wpAnyIn_ready (rs := [19]) (by kernel_rfl) (by simp) (AllReadyIn.cons (by rfl) ?_ AllReadyIn.nil)
          intro K hK
          go_simp
          try simp only [Act.put]
          refine hK _ _ ?_
          clear hK K
          refine wpAnyIn_done (by kernel_rfl) ?_ _
          unfold NQ
          dsimp only
          gi_wp2
          go_roundw
          case rel => exact ⟨k + 1, pre, by omega, by go_num, HP, hJ _ _ _ HJ.out hG1, HM.out.gr hG1⟩
          case measure => (first | (simp [intOf]; done) | (simp [intOf]; omega))
      · rw [hRk] at hR
        have HA : Hid (alikeV y x slack = true) := Lib.hid hR.symm
        have HP : Hid ((pre ++ [(⟨k, hlt, hRk⟩ : LikeK (likeR l0 l1 i slack) l1.length)]).map (·.1) = likeV (likeR l0 l1 i slack) (k + 1)) := Lib.hid (by rw [HST.out, if_pos hRk, List.map_append, hp.out]; rfl)
        have HF : Hid ((pre ++ [(⟨k, hlt, hRk⟩ : LikeK (likeR l0 l1 i slack) l1.length)]).map (·.1) <+: likeV (likeR l0 l1 i slack) l1.length) := Lib.hid (by rw [HP.out]; exact likeV_prefix _ (by omega))
        clear hR HST
        gi_wp2_with fail
        have b5 := Blk.new wr 79 #[.string x.nm, .int .i64 x.al, .int .i64 x.ah, .int .i64 x.dl, .int .i64 x.dh, .int .i64 x.lv]
        have hgB : Gr wr (wr.alloc (.cells #[.string x.nm, .int .i64 x.al, .int .i64 x.ah, .int .i64 x.dl, .int .i64 x.dh, .int .i64 x.lv] 79)) := (Below.refl _ _).alloc (Nat.le_refl _) _
        obtain ⟨e0, e1, e2, e3, e4, e5, e6⟩ := blk6 b5
        have lb5 := b5.lt
        have MB := HM.out.gr hgB
        have f0 := MB.cm; have f1 := MB.q0; have f2 := MB.ci; have f3 := MB.q2; have lm := MB.ltm; have lq := MB.ltq; have li := MB.lti
        obtain ⟨_, _, hA0', _, y0, y1, y2, y3, y4, y5⟩ := mkCells MB.r0 hi
        simp only [Option.some.injEq, Addr.mk.injEq, true_and, and_true] at hA0'
        obtain ⟨rfl, rfl⟩ := hA0'
        rw [hy] at y0 y1 y2 y3 y4 y5
        have lg0 := Nat.lt_of_lt_of_le lg0 (Below.size hgB)
        obtain ⟨WB, hWB⟩ : ∃ WB, wr.alloc (.cells #[.string x.nm, .int .i64 x.al, .int .i64 x.ah, .int .i64 x.dl, .int .i64 x.dh, .int .i64 x.lv] 79) = WB := ⟨_, rfl⟩
        rw [hWB] at b5 hgB e0 e1 e2 e3 e4 e5 e6 lb5 MB f0 f1 f2 f3 lm lq li y0 y1 y2 y3 y4 y5 lg0 ⊢
        have HGB := Lib.hid hgB
        clear hWB b5 MB hgB
        refine wpIn_region_w 13 (Gr _) (by kernel_rfl) (Below.refl _ _).drew ?_
        refine wpWI_det (t' := ?ct0R2) (l := [12, 11, 10, 9, 8, 7, 6, 5, 4, 3, 2, 1, 0]) 0 (by kernel_rfl) (by decide) (by rfl) (by kernel_rfl) (NQ_free _) (by kernel_rfl) ?cw0R2 ?ch0R2 ?ca0R2 (Eq.refl _) ?cH0R2
        case cw0R2 => (go_simp; done)
        case ch0R2 =>
          intro ds w' hS K hK
          have hc := (bcell hS).1
          have hf := (bcell hS).2
          have hz := hS.size
          try simp at hz
          go_simp
          try go_bits
          first
            | exact hK _ hS (Gr.refl _)
            | exact hK _ (by repeat (first | (with_reducible exact Below.refl _ _) | (with_reducible assumption) | ((with_reducible refine Below.setCell ?_ ?_ _); rotate_left; · (first | exact Nat.le_refl _ | (simp; done) | (simp; omega) | omega)) | ((with_reducible refine Below.alloc ?_ ?_ _); rotate_left; · (first | exact Nat.le_refl _ | (simp; done) | (simp; omega) | omega)) | (with_reducible apply Below.drew) | (with_reducible apply below_drewN') | (refine Below.trans ?_ (Below.mono (by assumption) (by first | exact Nat.le_refl _ | (simp; done) | (simp; omega) | omega))) | exact Below.refl _ _ | assumption)) (by repeat (first | (with_reducible exact Below.refl _ _) | (with_reducible assumption) | ((with_reducible refine Below.setCell ?_ ?_ _); rotate_left; · (first | exact Nat.le_refl _ | (simp; done) | (simp; omega) | omega)) | ((with_reducible refine Below.alloc ?_ ?_ _); rotate_left; · (first | exact Nat.le_refl _ | (simp; done) | (simp; omega) | omega)) | (with_reducible apply Below.drew) | (with_reducible apply below_drewN') | (refine Below.trans ?_ (Below.mono (by assumption) (by first | exact Nat.le_refl _ | (simp; done) | (simp; omega) | omega))) | exact Below.refl _ _ | assumption))
        case ca0R2 => (first | (simp [Act.put]; done) | (simp [Act.put, *]; done))
        try dsimp only
        refine wpWI_det (t' := ?ct1R2) (l := [12, 11, 10, 9, 8, 7, 6, 5, 4, 3, 2, 1, 0]) 1 (by kernel_rfl) (by decide) (by rfl) (by kernel_rfl) (NQ_free _) (by kernel_rfl) ?cw1R2 ?ch1R2 ?ca1R2 (Eq.refl _) ?cH1R2
        case cw1R2 => (go_simp; done)
        case ch1R2 =>
          intro ds w' hS K hK
          have hc := (bcell hS).1
          have hf := (bcell hS).2
          have hz := hS.size
          try simp at hz
          go_simp
          try go_bits
          first
            | exact hK _ hS (Gr.refl _)
            | exact hK _ (by repeat (first | (with_reducible exact Below.refl _ _) | (with_reducible assumption) | ((with_reducible refine Below.setCell ?_ ?_ _); rotate_left; · (first | exact Nat.le_refl _ | (simp; done) | (simp; omega) | omega)) | ((with_reducible refine Below.alloc ?_ ?_ _); rotate_left; · (first | exact Nat.le_refl _ | (simp; done) | (simp; omega) | omega)) | (with_reducible apply Below.drew) | (with_reducible apply below_drewN') | (refine Below.trans ?_ (Below.mono (by assumption) (by first | exact Nat.le_refl _ | (simp; done) | (simp; omega) | omega))) | exact Below.refl _ _ | assumption)) (by repeat (first | (with_reducible exact Below.refl _ _) | (with_reducible assumption) | ((with_reducible refine Below.setCell ?_ ?_ _); rotate_left; · (first | exact Nat.le_refl _ | (simp; done) | (simp; omega) | omega)) | ((with_reducible refine Below.alloc ?_ ?_ _); rotate_left; · (first | exact Nat.le_refl _ | (simp; done) | (simp; omega) | omega)) | (with_reducible apply Below.drew) | (with_reducible apply below_drewN') | (refine Below.trans ?_ (Below.mono (by assumption) (by first | exact Nat.le_refl _ | (simp; done) | (simp; omega) | omega))) | exact Below.refl _ _ | assumption))
        case ca1R2 => (first | (simp [Act.put]; done) | (simp [Act.put, *]; done))
        try dsimp only
        refine wpWI_det (t' := ?ct2R2) (l := [12, 11, 10, 9, 8, 7, 6, 5, 4, 3, 2, 1, 0]) 2 (by kernel_rfl) (by decide) (by rfl) (by kernel_rfl) (NQ_free _) (by kernel_rfl) ?cw2R2 ?ch2R2 ?ca2R2 (Eq.refl _) ?cH2R2
        case cw2R2 => (go_simp; done)
        case ch2R2 =>
          intro ds w' hS K hK
          have hc := (bcell hS).1
          have hf := (bcell hS).2
          have hz := hS.size
          try simp at hz
          go_simp
          try go_bits
          first
            | exact hK _ hS (Gr.refl _)
            | exact hK _ (by repeat (first | (with_reducible exact Below.refl _ _) | (with_reducible assumption) | ((with_reducible refine Below.setCell ?_ ?_ _); rotate_left; · (first | exact Nat.le_refl _ | (simp; done) | (simp; omega) | omega)) | ((with_reducible refine Below.alloc ?_ ?_ _); rotate_left; · (first | exact Nat.le_refl _ | (simp; done) | (simp; omega) | omega)) | (with_reducible apply Below.drew) | (with_reducible apply below_drewN') | (refine Below.trans ?_ (Below.mono (by assumption) (by first | exact Nat.le_refl _ | (simp; done) | (simp; omega) | omega))) | exact Below.refl _ _ | assumption)) (by repeat (first | (with_reducible exact Below.refl _ _) | (with_reducible assumption) | ((with_reducible refine Below.setCell ?_ ?_ _); rotate_left; · (first | exact Nat.le_refl _ | (simp; done) | (simp; omega) | omega)) | ((with_reducible refine Below.alloc ?_ ?_ _); rotate_left; · (first | exact Nat.le_refl _ | (simp; done) | (simp; omega) | omega)) | (with_reducible apply Below.drew) | (with_reducible apply below_drewN') | (refine Below.trans ?_ (Below.mono (by assumption) (by first | exact Nat.le_refl _ | (simp; done) | (simp; omega) | omega))) | exact Below.refl _ _ | assumption))
        case ca2R2 => (first | (simp [Act.put]; done) | (simp [Act.put, *]; done))
        try dsimp only
        refine wpWI_det (t' := ?ct3R2) (l := [12, 11, 10, 9, 8, 7, 6, 5, 4, 3, 2, 1, 0]) 3 (by kernel_rfl) (by decide) (by rfl) (by kernel_rfl) (NQ_free _) (by kernel_rfl) ?cw3R2 ?ch3R2 ?ca3R2 (Eq.refl _) ?cH3R2
        case cw3R2 => (go_simp; done)
        case ch3R2 =>
          intro ds w' hS K hK
          have hc := (bcell hS).1
          have hf := (bcell hS).2
          have hz := hS.size
          try simp at hz
          go_simp
          try go_bits
          first
            | exact hK _ hS (Gr.refl _)
            | exact hK _ (by repeat (first | (with_reducible exact Below.refl _ _) | (with_reducible assumption) | ((with_reducible refine Below.setCell ?_ ?_ _); rotate_left; · (first | exact Nat.le_refl _ | (simp; done) | (simp; omega) | omega)) | ((with_reducible refine Below.alloc ?_ ?_ _); rotate_left; · (first | exact Nat.le_refl _ | (simp; done) | (simp; omega) | omega)) | (with_reducible apply Below.drew) | (with_reducible apply below_drewN') | (refine Below.trans ?_ (Below.mono (by assumption) (by first | exact Nat.le_refl _ | (simp; done) | (simp; omega) | omega))) | exact Below.refl _ _ | assumption)) (by repeat (first | (with_reducible exact Below.refl _ _) | (with_reducible assumption) | ((with_reducible refine Below.setCell ?_ ?_ _); rotate_left; · (first | exact Nat.le_refl _ | (simp; done) | (simp; omega) | omega)) | ((with_reducible refine Below.alloc ?_ ?_ _); rotate_left; · (first | exact Nat.le_refl _ | (simp; done) | (simp; omega) | omega)) | (with_reducible apply Below.drew) | (with_reducible apply below_drewN') | (refine Below.trans ?_ (Below.mono (by assumption) (by first | exact Nat.le_refl _ | (simp; done) | (simp; omega) | omega))) | exact Below.refl _ _ | assumption))
        case ca3R2 => (first | (simp [Act.put]; done) | (simp [Act.put, *]; done))
        try dsimp only
        refine wpWI_det (t' := ?ct4R2) (l := [12, 11, 10, 9, 8, 7, 6, 5, 4, 3, 2, 1, 0]) 4 (by kernel_rfl) (by decide) (by rfl) (by kernel_rfl) (NQ_free _) (by kernel_rfl) ?cw4R2 ?ch4R2 ?ca4R2 (Eq.refl _) ?cH4R2
        case cw4R2 => (go_simp; done)
        case ch4R2 =>
          intro ds w' hS K hK
          have hc := (bcell hS).1
          have hf := (bcell hS).2
          have hz := hS.size
          try simp at hz
          go_simp
          try go_bits
          first
            | exact hK _ hS (Gr.refl _)
            | exact hK _ (by repeat (first | (with_reducible exact Below.refl _ _) | (with_reducible assumption) | ((with_reducible refine Below.setCell ?_ ?_ _); rotate_left; · (first | exact Nat.le_refl _ | (simp; done) | (simp; omega) | omega)) | ((with_reducible refine Below.alloc ?_ ?_ _); rotate_left; · (first | exact Nat.le_refl _ | (simp; done) | (simp; omega) | omega)) | (with_reducible apply Below.drew) | (with_reducible apply below_drewN') | (refine Below.trans ?_ (Below.mono (by assumption) (by first | exact Nat.le_refl _ | (simp; done) | (simp; omega) | omega))) | exact Below.refl _ _ | assumption)) (by repeat (first | (with_reducible exact Below.refl _ _) | (with_reducible assumption) | ((with_reducible refine Below.setCell ?_ ?_ _); rotate_left; · (first | exact Nat.le_refl _ | (simp; done) | (simp; omega) | omega)) | ((with_reducible refine Below.alloc ?_ ?_ _); rotate_left; · (first | exact Nat.le_refl _ | (simp; done) | (simp; omega) | omega)) | (with_reducible apply Below.drew) | (with_reducible apply below_drewN') | (refine Below.trans ?_ (Below.mono (by assumption) (by first | exact Nat.le_refl _ | (simp; done) | (simp; omega) | omega))) | exact Below.refl _ _ | assumption))
        case ca4R2 => (first | (simp [Act.put]; done) | (simp [Act.put, *]; done))
        try dsimp only
        refine wpWI_det (t' := ?ct5R2) (l := [12, 11, 10, 9, 8, 7, 6, 5, 4, 3, 2, 1, 0]) 5 (by kernel_rfl) (by decide) (by rfl) (by kernel_rfl) (NQ_free _) (by kernel_rfl) ?cw5R2 ?ch5R2 ?ca5R2 (Eq.refl _) ?cH5R2
        case cw5R2 => (go_simp; done)
        case ch5R2 =>
          intro ds w' hS K hK
          have hc := (bcell hS).1
          have hf := (bcell hS).2
          have hz := hS.size
          try simp at hz
          go_simp
          try go_bits
          first
            | exact hK _ hS (Gr.refl _)
            | exact hK _ (by repeat (first | (with_reducible exact Below.refl _ _) | (with_reducible assumption) | ((with_reducible refine Below.setCell ?_ ?_ _); rotate_left; · (first | exact Nat.le_refl _ | (simp; done) | (simp; omega) | omega)) | ((with_reducible refine Below.alloc ?_ ?_ _); rotate_left; · (first | exact Nat.le_refl _ | (simp; done) | (simp; omega) | omega)) | (with_reducible apply Below.drew) | (with_reducible apply below_drewN') | (refine Below.trans ?_ (Below.mono (by assumption) (by first | exact Nat.le_refl _ | (simp; done) | (simp; omega) | omega))) | exact Below.refl _ _ | assumption)) (by repeat (first | (with_reducible exact Below.refl _ _) | (with_reducible assumption) | ((with_reducible refine Below.setCell ?_ ?_ _); rotate_left; · (first | exact Nat.le_refl _ | (simp; done) | (simp; omega) | omega)) | ((with_reducible refine Below.alloc ?_ ?_ _); rotate_left; · (first | exact Nat.le_refl _ | (simp; done) | (simp; omega) | omega)) | (with_reducible apply Below.drew) | (with_reducible apply below_drewN') | (refine Below.trans ?_ (Below.mono (by assumption) (by first | exact Nat.le_refl _ | (simp; done) | (simp; omega) | omega))) | exact Below.refl _ _ | assumption))
        case ca5R2 => (first | (simp [Act.put]; done) | (simp [Act.put, *]; done))
        try dsimp only
        refine wpWI_det (t' := ?ct6R2) (l := [12, 11, 10, 9, 8, 7, 6, 5, 4, 3, 2, 1, 0]) 6 (by kernel_rfl) (by decide) (by rfl) (by kernel_rfl) (NQ_free _) (by kernel_rfl) ?cw6R2 ?ch6R2 ?ca6R2 (Eq.refl _) ?cH6R2
        case cw6R2 => (go_simp; done)
        case ch6R2 =>
          intro ds w' hS K hK
          have hc := (bcell hS).1
          have hf := (bcell hS).2
          have hz := hS.size
          try simp at hz
          go_simp
          try go_bits
          first
            | exact hK _ hS (Gr.refl _)
            | exact hK _ (by repeat (first | (with_reducible exact Below.refl _ _) | (with_reducible assumption) | ((with_reducible refine Below.setCell ?_ ?_ _); rotate_left; · (first | exact Nat.le_refl _ | (simp; done) | (simp; omega) | omega)) | ((with_reducible refine Below.alloc ?_ ?_ _); rotate_left; · (first | exact Nat.le_refl _ | (simp; done) | (simp; omega) | omega)) | (with_reducible apply Below.drew) | (with_reducible apply below_drewN') | (refine Below.trans ?_ (Below.mono (by assumption) (by first | exact Nat.le_refl _ | (simp; done) | (simp; omega) | omega))) | exact Below.refl _ _ | assumption)) (by repeat (first | (with_reducible exact Below.refl _ _) | (with_reducible assumption) | ((with_reducible refine Below.setCell ?_ ?_ _); rotate_left; · (first | exact Nat.le_refl _ | (simp; done) | (simp; omega) | omega)) | ((with_reducible refine Below.alloc ?_ ?_ _); rotate_left; · (first | exact Nat.le_refl _ | (simp; done) | (simp; omega) | omega)) | (with_reducible apply Below.drew) | (with_reducible apply below_drewN') | (refine Below.trans ?_ (Below.mono (by assumption) (by first | exact Nat.le_refl _ | (simp; done) | (simp; omega) | omega))) | exact Below.refl _ _ | assumption))
        case ca6R2 => (first | (simp [Act.put]; done) | (simp [Act.put, *]; done))
        try dsimp only
        refine wpWI_det (t' := ?ct7R2) (l := [12, 11, 10, 9, 8, 7, 6, 5, 4, 3, 2, 1, 0]) 7 (by kernel_rfl) (by decide) (by rfl) (by kernel_rfl) (NQ_free _) (by kernel_rfl) ?cw7R2 ?ch7R2 ?ca7R2 (Eq.refl _) ?cH7R2
        case cw7R2 => (go_simp; done)
        case ch7R2 =>
          intro ds w' hS K hK
          have hc := (bcell hS).1
          have hf := (bcell hS).2
          have hz := hS.size
          try simp at hz
          go_simp
          try go_bits
          first
            | exact hK _ hS (Gr.refl _)
            | exact hK _ (by repeat (first | (with_reducible exact Below.refl _ _) | (with_reducible assumption) | ((with_reducible refine Below.setCell ?_ ?_ _); rotate_left; · (first | exact Nat.le_refl _ | (simp; done) | (simp; omega) | omega)) | ((with_reducible refine Below.alloc ?_ ?_ _); rotate_left; · (first | exact Nat.le_refl _ | (simp; done) | (simp; omega) | omega)) | (with_reducible apply Below.drew) | (with_reducible apply below_drewN') | (refine Below.trans ?_ (Below.mono (by assumption) (by first | exact Nat.le_refl _ | (simp; done) | (simp; omega) | omega))) | exact Below.refl _ _ | assumption)) (by repeat (first | (with_reducible exact Below.refl _ _) | (with_reducible assumption) | ((with_reducible refine Below.setCell ?_ ?_ _); rotate_left; · (first | exact Nat.le_refl _ | (simp; done) | (simp; omega) | omega)) | ((with_reducible refine Below.alloc ?_ ?_ _); rotate_left; · (first | exact Nat.le_refl _ | (simp; done) | (simp; omega) | omega)) | (with_reducible apply Below.drew) | (with_reducible apply below_drewN') | (refine Below.trans ?_ (Below.mono (by assumption) (by first | exact Nat.le_refl _ | (simp; done) | (simp; omega) | omega))) | exact Below.refl _ _ | assumption))
        case ca7R2 => (first | (simp [Act.put]; done) | (simp [Act.put, *]; done))
        try dsimp only
        refine wpWI_det (t' := ?ct8R2) (l := [12, 11, 10, 9, 8, 7, 6, 5, 4, 3, 2, 1, 0]) 8 (by kernel_rfl) (by decide) (by rfl) (by kernel_rfl) (NQ_free _) (by kernel_rfl) ?cw8R2 ?ch8R2 ?ca8R2 (Eq.refl _) ?cH8R2
        case cw8R2 => (go_simp; done)
        case ch8R2 =>
          intro ds w' hS K hK
          have hc := (bcell hS).1
          have hf := (bcell hS).2
          have hz := hS.size
          try simp at hz
          go_simp
          try go_bits
          first
            | exact hK _ hS (Gr.refl _)
            | exact hK _ (by repeat (first | (with_reducible exact Below.refl _ _) | (with_reducible assumption) | ((with_reducible refine Below.setCell ?_ ?_ _); rotate_left; · (first | exact Nat.le_refl _ | (simp; done) | (simp; omega) | omega)) | ((with_reducible refine Below.alloc ?_ ?_ _); rotate_left; · (first | exact Nat.le_refl _ | (simp; done) | (simp; omega) | omega)) | (with_reducible apply Below.drew) | (with_reducible apply below_drewN') | (refine Below.trans ?_ (Below.mono (by assumption) (by first | exact Nat.le_refl _ | (simp; done) | (simp; omega) | omega))) | exact Below.refl _ _ | assumption)) (by repeat (first | (with_reducible exact Below.refl _ _) | (with_reducible assumption) | ((with_reducible refine Below.setCell ?_ ?_ _); rotate_left; · (first | exact Nat.le_refl _ | (simp; done) | (simp; omega) | omega)) | ((with_reducible refine Below.alloc ?_ ?_ _); rotate_left; · (first | exact Nat.le_refl _ | (simp; done) | (simp; omega) | omega)) | (with_reducible apply Below.drew) | (with_reducible apply below_drewN') | (refine Below.trans ?_ (Below.mono (by assumption) (by first | exact Nat.le_refl _ | (simp; done) | (simp; omega) | omega))) | exact Below.refl _ _ | assumption))
        case ca8R2 => (first | (simp [Act.put]; done) | (simp [Act.put, *]; done))
        try dsimp only
        refine wpWI_det (t' := ?ct9R2) (l := [12, 11, 10, 9, 8, 7, 6, 5, 4, 3, 2, 1, 0]) 9 (by kernel_rfl) (by decide) (by rfl) (by kernel_rfl) (NQ_free _) (by kernel_rfl) ?cw9R2 ?ch9R2 ?ca9R2 (Eq.refl _) ?cH9R2
        case cw9R2 => (go_simp; done)
        case ch9R2 =>
          intro ds w' hS K hK
          have hc := (bcell hS).1
          have hf := (bcell hS).2
          have hz := hS.size
          try simp at hz
          go_simp
          try go_bits
          first
            | exact hK _ hS (Gr.refl _)
            | exact hK _ (by repeat (first | (with_reducible exact Below.refl _ _) | (with_reducible assumption) | ((with_reducible refine Below.setCell ?_ ?_ _); rotate_left; · (first | exact Nat.le_refl _ | (simp; done) | (simp; omega) | omega)) | ((with_reducible refine Below.alloc ?_ ?_ _); rotate_left; · (first | exact Nat.le_refl _ | (simp; done) | (simp; omega) | omega)) | (with_reducible apply Below.drew) | (with_reducible apply below_drewN') | (refine Below.trans ?_ (Below.mono (by assumption) (by first | exact Nat.le_refl _ | (simp; done) | (simp; omega) | omega))) | exact Below.refl _ _ | assumption)) (by repeat (first | (with_reducible exact Below.refl _ _) | (with_reducible assumption) | ((with_reducible refine Below.setCell ?_ ?_ _); rotate_left; · (first | exact Nat.le_refl _ | (simp; done) | (simp; omega) | omega)) | ((with_reducible refine Below.alloc ?_ ?_ _); rotate_left; · (first | exact Nat.le_refl _ | (simp; done) | (simp; omega) | omega)) | (with_reducible apply Below.drew) | (with_reducible apply below_drewN') | (refine Below.trans ?_ (Below.mono (by assumption) (by first | exact Nat.le_refl _ | (simp; done) | (simp; omega) | omega))) | exact Below.refl _ _ | assumption))
        case ca9R2 => (first | (simp [Act.put]; done) | (simp [Act.put, *]; done))
        try dsimp only
        refine wpWI_det (t' := ?ct10R2) (l := [12, 11, 10, 9, 8, 7, 6, 5, 4, 3, 2, 1, 0]) 10 (by kernel_rfl) (by decide) (by rfl) (by kernel_rfl) (NQ_free _) (by kernel_rfl) ?cw10R2 ?ch10R2 ?ca10R2 (Eq.refl _) ?cH10R2
        case cw10R2 => (go_simp; done)
        case ch10R2 =>
          intro ds w' hS K hK
          have hc := (bcell hS).1
          have hf := (bcell hS).2
          have hz := hS.size
          try simp at hz
          go_simp
          try go_bits
          first
            | exact hK _ hS (Gr.refl _)
            | exact hK _ (by repeat (first | (with_reducible exact Below.refl _ _) | (with_reducible assumption) | ((with_reducible refine Below.setCell ?_ ?_ _); rotate_left; · (first | exact Nat.le_refl _ | (simp; done) | (simp; omega) | omega)) | ((with_reducible refine Below.alloc ?_ ?_ _); rotate_left; · (first | exact Nat.le_refl _ | (simp; done) | (simp; omega) | omega)) | (with_reducible apply Below.drew) | (with_reducible apply below_drewN') | (refine Below.trans ?_ (Below.mono (by assumption) (by first | exact Nat.le_refl _ | (simp; done) | (simp; omega) | omega))) | exact Below.refl _ _ | assumption)) (by repeat (first | (with_reducible exact Below.refl _ _) | (with_reducible assumption) | ((with_reducible refine Below.setCell ?_ ?_ _); rotate_left; · (first | exact Nat.le_refl _ | (simp; done) | (simp; omega) | omega)) | ((with_reducible refine Below.alloc ?_ ?_ _); rotate_left; · (first | exact Nat.le_refl _ | (simp; done) | (simp; omega) | omega)) | (with_reducible apply Below.drew) | (with_reducible apply below_drewN') | (refine Below.trans ?_ (Below.mono (by assumption) (by first | exact Nat.le_refl _ | (simp; done) | (simp; omega) | omega))) | exact Below.refl _ _ | assumption))
        case ca10R2 => (first | (simp [Act.put]; done) | (simp [Act.put, *]; done))
        try dsimp only
        refine wpWI_det (t' := ?ct11R2) (l := [12, 11, 10, 9, 8, 7, 6, 5, 4, 3, 2, 1, 0]) 11 (by kernel_rfl) (by decide) (by rfl) (by kernel_rfl) (NQ_free _) (by kernel_rfl) ?cw11R2 ?ch11R2 ?ca11R2 (Eq.refl _) ?cH11R2
        case cw11R2 => (go_simp; done)
        case ch11R2 =>
          intro ds w' hS K hK
          have hc := (bcell hS).1
          have hf := (bcell hS).2
          have hz := hS.size
          try simp at hz
          go_simp
          try go_bits
          first
            | exact hK _ hS (Gr.refl _)
            | exact hK _ (by repeat (first | (with_reducible exact Below.refl _ _) | (with_reducible assumption) | ((with_reducible refine Below.setCell ?_ ?_ _); rotate_left; · (first | exact Nat.le_refl _ | (simp; done) | (simp; omega) | omega)) | ((with_reducible refine Below.alloc ?_ ?_ _); rotate_left; · (first | exact Nat.le_refl _ | (simp; done) | (simp; omega) | omega)) | (with_reducible apply Below.drew) | (with_reducible apply below_drewN') | (refine Below.trans ?_ (Below.mono (by assumption) (by first | exact Nat.le_refl _ | (simp; done) | (simp; omega) | omega))) | exact Below.refl _ _ | assumption)) (by repeat (first | (with_reducible exact Below.refl _ _) | (with_reducible assumption) | ((with_reducible refine Below.setCell ?_ ?_ _); rotate_left; · (first | exact Nat.le_refl _ | (simp; done) | (simp; omega) | omega)) | ((with_reducible refine Below.alloc ?_ ?_ _); rotate_left; · (first | exact Nat.le_refl _ | (simp; done) | (simp; omega) | omega)) | (with_reducible apply Below.drew) | (with_reducible apply below_drewN') | (refine Below.trans ?_ (Below.mono (by assumption) (by first | exact Nat.le_refl _ | (simp; done) | (simp; omega) | omega))) | exact Below.refl _ _ | assumption))
        case ca11R2 => (first | (simp [Act.put]; done) | (simp [Act.put, *]; done))
        try dsimp only
        refine wpWI_det (t' := ?ct12R2) (l := [12, 11, 10, 9, 8, 7, 6, 5, 4, 3, 2, 1, 0]) 12 (by kernel_rfl) (by decide) (by rfl) (by kernel_rfl) (NQ_free _) (by kernel_rfl) ?cw12R2 ?ch12R2 ?ca12R2 (Eq.refl _) ?cH12R2
        case cw12R2 => (go_simp; done)
        case ch12R2 =>
          intro ds w' hS K hK
          have hc := (bcell hS).1
          have hf := (bcell hS).2
          have hz := hS.size
          try simp at hz
          go_simp
          try go_bits
          first
            | exact hK _ hS (Gr.refl _)
            | exact hK _ (by repeat (first | (with_reducible exact Below.refl _ _) | (with_reducible assumption) | ((with_reducible refine Below.setCell ?_ ?_ _); rotate_left; · (first | exact Nat.le_refl _ | (simp; done) | (simp; omega) | omega)) | ((with_reducible refine Below.alloc ?_ ?_ _); rotate_left; · (first | exact Nat.le_refl _ | (simp; done) | (simp; omega) | omega)) | (with_reducible apply Below.drew) | (with_reducible apply below_drewN') | (refine Below.trans ?_ (Below.mono (by assumption) (by first | exact Nat.le_refl _ | (simp; done) | (simp; omega) | omega))) | exact Below.refl _ _ | assumption)) (by repeat (first | (with_reducible exact Below.refl _ _) | (with_reducible assumption) | ((with_reducible refine Below.setCell ?_ ?_ _); rotate_left; · (first | exact Nat.le_refl _ | (simp; done) | (simp; omega) | omega)) | ((with_reducible refine Below.alloc ?_ ?_ _); rotate_left; · (first | exact Nat.le_refl _ | (simp; done) | (simp; omega) | omega)) | (with_reducible apply Below.drew) | (with_reducible apply below_drewN') | (refine Below.trans ?_ (Below.mono (by assumption) (by first | exact Nat.le_refl _ | (simp; done) | (simp; omega) | omega))) | exact Below.refl _ _ | assumption))
        case ca12R2 => (first | (simp [Act.put]; done) | (simp [Act.put, *]; done))
        try dsimp only
        refine wpWI_stop (by kernel_rfl) ?_
        intro wI hgI hSI
        have hgW : Gr wr wI := Gr.trans HGB.out hSI
        clear e0 e1 e2 e3 e4 e5 e6 lb5 f0 f1 f2 f3 lm lq li y0 y1 y2 y3 y4 y5 lg0 hgI hSI
        refine wpAnyIn_ready (rs := [13]) (by kernel_rfl) (by simp) (AllReadyIn.cons (by rfl) ?_ AllReadyIn.nil)
        intro K hK
        go_simp
        refine ⟨trivial, ?_⟩
        refine (callsIn_wide.2 (alike_any y x slack HSY.out HSX.out _)).mono ?_
        rw [HA.out]
        rintro e W1 ⟨rfl, hB1⟩
        have hG1 := Gr.trans hgW hB1
        dsimp only
        refine hK _ _ ?_
        clear hK K hB1 hgW
        refine wpAnyIn_ready (rs := [14]) (by kernel_rfl) (by simp) (AllReadyIn.cons (by rfl) ?_ AllReadyIn.nil)
        intro K hK
        go_simp
        try simp only [Act.put]
        refine hK _ _ ?_
        clear hK K
        refine wpAnyIn_ready (rs := [15, 16]) (by kernel_rfl) (by simp) (AllReadyIn.cons (by rfl) ?_ (AllReadyIn.cons (by rfl) ?_ AllReadyIn.nil))
        · intro K hK
          go_simp
          try simp only [Act.put]
          refine hK _ _ ?_
          clear hK K
          refine wpAnyIn_ready (rs := [16]) (by kernel_rfl) (by simp) (AllReadyIn.cons (by rfl) ?_ AllReadyIn.nil)
          intro K hK
          go_simp
          try simp only [Act.put]
          refine hK _ _ ?_
          clear hK K
          obtain ⟨fn, tmps, assign, body, hyy, hR2⟩ := hY pre ⟨k, hlt, hRk⟩ W1 (hJ _ _ _ HJ.out hG1) hlen
          dsimp only at hyy
          refine wpAnyIn_ready (rs := [17]) (by kernel_rfl) (by simp) (AllReadyIn.cons (by rfl) ?_ AllReadyIn.nil)
          intro K hK
          go_simp
          try simp only [Act.put]
          refine hR2.mono ?_
          rintro e W3 (⟨rfl, hJ3, hk3⟩ | ⟨rfl, hJx3⟩)
          · dsimp only
            refine hK _ _ ?_
            clear hK K
            refine wpAnyIn_ready (rs := [18]) (by kernel_rfl) (by simp) (AllReadyIn.cons (by rfl) ?_ AllReadyIn.nil)
            intro K hK
            go_simp
            try simp only [Act.put]
            refine hK _ _ ?_
            clear hK K
            refine wpAnyIn_ready (rs := [19]) (by kernel_rfl) (by simp) (AllReadyIn.cons (by rfl) ?_ AllReadyIn.nil)
            intro K hK
            go_simp
            try simp only [Act.put]
            refine hK _ _ ?_
            clear hK K
            refine wpAnyIn_done (by kernel_rfl) ?_ _
            unfold NQ
            dsimp only
            gi_wp2
            go_roundw
            case rel => exact ⟨k + 1, pre ++ [(⟨k, hlt, hRk⟩ : LikeK (likeR l0 l1 i slack) l1.length)], by omega, by go_num, HP, hJ3, (HM.out.gr hG1).kl hk3⟩
            case measure => (first | (simp [intOf]; done) | (simp [intOf]; omega))
          · dsimp only
            refine hK _ _ ?_
            clear hK K
            refine wpAnyIn_ready (rs := [18]) (by kernel_rfl) (by simp) (AllReadyIn.cons (by rfl) ?_ AllReadyIn.nil)
            intro K hK
            go_simp
            try simp only [Act.put]
            refine hK _ _ ?_
            clear hK K
            refine wpAnyIn_ready (rs := [19]) (by kernel_rfl) (by simp) (AllReadyIn.cons (by rfl) ?_ AllReadyIn.nil)
            intro K hK
            go_simp
            try simp only [Act.put]
            refine hK _ _ ?_
            clear hK K
            refine wpAnyIn_done (by kernel_rfl) ?_ _
            unfold NQ
            dsimp only
            gi_wp2
            refine bodyPost_ret (results_none rfl _ _ _) rfl ?_
            exact ⟨⟨_, rfl⟩, .inr ⟨_, HF.out, hJx3⟩⟩
        · intro K hK
          go_simp
          try simp only [Act.put]
          refine hK _ _ ?_
          clear hK K
          refine wpAnyIn_ready (rs := [15]) (by kernel_rfl) (by simp) (AllReadyIn.cons (by rfl) ?_ AllReadyIn.nil)
          intro K hK
          go_simp
          try simp only [Act.put]
          refine hK _ _ ?_
          clear hK K
          obtain ⟨fn, tmps, assign, body, hyy, hR2⟩ := hY pre ⟨k, hlt, hRk⟩ W1 (hJ _ _ _ HJ.out hG1) hlen
          dsimp only at hyy
          refine wpAnyIn_ready (rs := [17]) (by kernel_rfl) (by simp) (AllReadyIn.cons (by rfl) ?_ AllReadyIn.nil)
          intro K hK
          go_simp
          try simp only [Act.put]
          refine hR2.mono ?_
          rintro e W3 (⟨rfl, hJ3, hk3⟩ | ⟨rfl, hJx3⟩)
          · dsimp only
            refine hK _ _ ?_
            clear hK K
            refine wpAnyIn_ready (rs := [18]) (by kernel_rfl) (by simp) (AllReadyIn.cons (by rfl) ?_ AllReadyIn.nil)
            intro K hK
            go_simp
            try simp only [Act.put]
            refine hK _ _ ?_
            clear hK K
            refine wpAnyIn_ready (rs := [19]) (by kernel_rfl) (by simp) (AllReadyIn.cons (by rfl) ?_ AllReadyIn.nil)
            intro K hK
            go_simp
            try simp only [Act.put]
            refine hK _ _ ?_
            clear hK K
            refine wpAnyIn_done (by kernel_rfl) ?_ _
            unfold NQ
            dsimp only
            gi_wp2
            go_roundw
            case rel => exact ⟨k + 1, pre ++ [(⟨k, hlt, hRk⟩ : LikeK (likeR l0 l1 i slack) l1.length)], by omega, by go_num, HP, hJ3, (HM.out.gr hG1).kl hk3⟩
            case measure => (first | (simp [intOf]; done) | (simp [intOf]; omega))
          · dsimp only
            refine hK _ _ ?_
            clear hK K
            refine wpAnyIn_ready (rs := [18]) (by kernel_rfl) (by simp) (AllReadyIn.cons (by rfl) ?_ AllReadyIn.nil)
            intro K hK
            go_simp
            try simp only [Act.put]
            refine hK _ _ ?_
            clear hK K
            refine wpAnyIn_ready (rs := [19]) (by kernel_rfl) (by simp) (AllReadyIn.cons (by rfl) ?_ AllReadyIn.nil)
            intro K hK
            go_simp
            try simp only [Act.put]
            refine hK _ _ ?_
            clear hK K
            refine wpAnyIn_done (by kernel_rfl) ?_ _
            unfold NQ
            dsimp only
            gi_wp2
            refine bodyPost_ret (results_none rfl _ _ _) rfl ?_
            exact ⟨⟨_, rfl⟩, .inr ⟨_, HF.out, hJx3⟩⟩
    · obtain rfl : k = l1.length := by omega
      gi_wp2
      go_end0
      exact ⟨⟨_, rfl⟩, .inl ⟨pre, hp.out, hJw⟩⟩
end Go.Proofs.YtidgeagpgllkeaaGreat
