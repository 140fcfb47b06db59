/- Contract: the places around a cell, as an iterator. -/
import Derived.RangeFuncBox
import Derived.RangeFuncLeaves
import Derived.RangeFuncNested
import Derived.Shelf.Abstract
import Derived.WalkKit
import Derived.OwnWalkIn
import Derived.TacticsInMore
import Derived.LoopNIn
import Derived.LoopIn
import Derived.Maps.AppendAt
import Derived.Test.YtjimdnmdnjhnjaaGreatDoorZgFaG
namespace Go.Proofs.YtjimdnmdnjhnjaaGreatDoor
open Go.RowKit Go.Shelf

attribute [local go_sem] Oper.semAt_some

/-- A place of a cell, of a size. -/
abbrev Cel := { x : Int × Int // (-200000 ≤ x.1 ∧ x.1 ≤ 200000) ∧ (-200000 ≤ x.2 ∧ x.2 ≤ 200000) }
def keepB (corners : Bool) (dr dc : Int) : Bool := !(decide (dr = 0) && decide (dc = 0)) && !(decide (dr ≠ 0) && decide (dc ≠ 0) && !corners)
/-- The places around a cell, of the first k of nine. -/
def nbV (r c : Int) (corners : Bool) (k : Nat) : List (Int × Int) := ((List.range k).filter fun j => keepB corners ((j / 3 : Nat) - 1 : Int) ((j % 3 : Nat) - 1 : Int)).map fun j => (r + ((j / 3 : Nat) - 1 : Int), c + ((j % 3 : Nat) - 1 : Int))
theorem nbV_succ (r c : Int) (corners : Bool) (k : Nat) : nbV r c corners (k + 1) = nbV r c corners k ++ if keepB corners ((k / 3 : Nat) - 1 : Int) ((k % 3 : Nat) - 1 : Int) then [(r + ((k / 3 : Nat) - 1 : Int), c + ((k % 3 : Nat) - 1 : Int))] else [] := by
  unfold nbV
  rw [List.range_succ, List.filter_append, List.map_append]
  congr 1
  rw [List.filter_cons, List.filter_nil]
  split
  · rfl
  · rfl
theorem nbV_step (r c : Int) (corners : Bool) (a b : Nat) (hb : b < 3) {dr dc : Int} (hr : (a : Int) - 1 = dr) (hc : (b : Int) - 1 = dc) : nbV r c corners (3 * a + (b + 1)) = nbV r c corners (3 * a + b) ++ if keepB corners dr dc then [(r + dr, c + dc)] else [] := by
  have h1 : (3 * a + b) / 3 = a := by omega
  have h2 : (3 * a + b) % 3 = b := by omega
  rw [show 3 * a + (b + 1) = 3 * a + b + 1 by omega, nbV_succ, h1, h2, hr, hc]
theorem nbV_len (r c : Int) (corners : Bool) (k : Nat) : (nbV r c corners k).length ≤ k := by
  unfold nbV; rw [List.length_map]; exact Nat.le_trans (List.length_filter_le _ _) (by simp)
theorem nbV_prefix (r c : Int) (corners : Bool) {j k : Nat} (h : j ≤ k) : nbV r c corners j <+: nbV r c corners k := by
  induction k with
  | zero => obtain rfl : j = 0 := by omega
            exact List.prefix_refl _
  | succ k ih =>
    by_cases h' : j = k + 1
    · rw [h']; exact List.prefix_refl _
    · rw [nbV_succ]; exact (ih (by omega)).trans (List.prefix_append _ _)

/-- The two boxes of the iterator lie as they lay. -/
structure KN (Bc Ba : Nat) (W W' : World) : Prop where
  c : W'.heap[Bc]? = W.heap[Bc]?
  a : W'.heap[Ba]? = W.heap[Ba]?
theorem KN.refl (Bc Ba : Nat) (W : World) : KN Bc Ba W W := ⟨rfl, rfl⟩
theorem KN.trans {Bc Ba : Nat} {X Y Z : World} (h : KN Bc Ba X Y) (k : KN Bc Ba Y Z) : KN Bc Ba X Z := ⟨k.c.trans h.c, k.a.trans h.a⟩
theorem KN.cellc {Bc Ba : Nat} {W W' : World} (h : KN Bc Ba W W') (o : Nat) : W'.cell? ⟨Bc, o, none⟩ = W.cell? ⟨Bc, o, none⟩ := World.cell?_of_block h.c
theorem KN.cella {Bc Ba : Nat} {W W' : World} (h : KN Bc Ba W W') (o : Nat) : W'.cell? ⟨Ba, o, none⟩ = W.cell? ⟨Ba, o, none⟩ := World.cell?_of_block h.a

set_option maxRecDepth 100000 in
set_option maxHeartbeats 4000000 in
theorem nb1_in (F : Fence) (n : Nat) (h7 : F.fn 108) (hro : F.round = none) (hn : 1 ≤ n) (l Bc Ba : Nat) (r c : Int) (corners : Bool) (hr : -150000 ≤ r ∧ r ≤ 150000) (hc : -150000 ≤ c ∧ c ≤ 150000) (J Jx : List Cel → World → Prop)
    (hY : ∀ pre (x : Cel) W, J pre W → pre.length < 9 → YieldAt F (n - 1) Tryz.prog l #[.agg #[.int .i64 x.1.1, .int .i64 x.1.2]] W fun e W' =>
      (e = .returned (.bool true) ∧ J (pre ++ [x]) W' ∧ KN Bc Ba W W') ∨ (e = .returned (.bool false) ∧ Jx (pre ++ [x]) W'))
    (W : World) (c0 : W.cell? ⟨Bc, 0, none⟩ = some (.bool corners)) (a0 : W.cell? ⟨Ba, 0, none⟩ = some (.int .i64 r)) (a1 : W.cell? ⟨Ba, 1, none⟩ = some (.int .i64 c)) (h0 : J [] W) :
    CallsIn F n Tryz.prog 108 #[.func (.yield l) #[] #[], .pointer (some ⟨Bc, 0, none⟩), .pointer (some ⟨Ba, 0, none⟩)] W fun e W' => (∃ v, e = .returned v) ∧
      ((∃ ys : List Cel, ys.map (·.1) = nbV r c corners 9 ∧ J ys W') ∨ (∃ pre : List Cel, pre.map (·.1) <+: nbV r c corners 9 ∧ Jx pre W')) := by
  refine callsIn_of_wp Tryz.func108 rfl h7 ?_ hro
  simp only [Tryz.ntmps108, List.size_toArray, List.length_cons, List.length_nil, Nat.reduceAdd, Nat.reduceSub, Array.replicate_succ, Array.replicate_zero, List.push_toArray, List.append_toArray, List.nil_append, List.cons_append]
  gi_wp2
  gi_loopw [4] (fun i wr => ∃ (a : Nat) (pre : List Cel), a ≤ 3 ∧ i = .int .i64 ((a : Int) - 1) ∧ Hid (pre.map (·.1) = nbV r c corners (3 * a)) ∧ J pre wr ∧ KN Bc Ba W wr) (fun i _ => (2 - intOf i).toNat)
  case atStart => exact ⟨0, [], by omega, rfl, Lib.hid rfl, h0, KN.refl _ _ _⟩
  case round =>
    obtain ⟨a, pre, ha, rfl, hp, hJ, hB⟩ := hrel
    by_cases hlt : a < 3
    · obtain ⟨dr, hdr⟩ : ∃ dr : Int, (a : Int) - 1 = dr := ⟨_, rfl⟩
      rw [hdr]
      have hd9 : dr ≤ 1 := by omega
      have hd8 : decide (dr ≤ 1) = true := by simpa using hd9
      gi_wp2_with fail
      clear hd8 hd9
      gi_loopw [5] (fun i w2 => ∃ (b : Nat) (pre : List Cel), b ≤ 3 ∧ i = .int .i64 ((b : Int) - 1) ∧ Hid (pre.map (·.1) = nbV r c corners (3 * a + b)) ∧ J pre w2 ∧ KN Bc Ba W w2) (fun i _ => (2 - intOf i).toNat)
      case atStart => exact ⟨0, pre, by omega, rfl, hp, hJ, hB⟩
      case round =>
        clear hp hJ hB
        obtain ⟨b, pre, hb, rfl, hp, hJ, hB⟩ := hrel
        by_cases hlt2 : b < 3
        · obtain ⟨dc, hdc⟩ : ∃ dc : Int, (b : Int) - 1 = dc := ⟨_, rfl⟩
          have HST := Lib.hid (nbV_step r c corners a b hlt2 hdr hdc)
          have d1 : -1 ≤ dr ∧ dr ≤ 1 := by omega
          have d2 : -1 ≤ dc ∧ dc ≤ 1 := by omega
          have hlen : pre.length < 9 := by
            have h1 := nbV_len r c corners (3 * a + b)
            rw [← hp.out, List.length_map] at h1
            omega
          rw [hdc]
          have c0' := (hB.cellc 0).trans c0
          have a0' := (hB.cella 0).trans a0
          have a1' := (hB.cella 1).trans a1
          have HDR := Lib.hid hdr; have HDC := Lib.hid hdc
          clear hdr hdc
          have hyes : Hid (∀ x : Cel, x.1 = (r + dr, c + dc) → keepB corners dr dc = true → (pre ++ [x]).map (·.1) = nbV r c corners (3 * a + (b + 1))) := Lib.hid (fun x hx h => by rw [HST.out, if_pos h, List.map_append, hp.out]; simp [hx])
          have hno : Hid (keepB corners dr dc = false → pre.map (·.1) = nbV r c corners (3 * a + (b + 1))) := Lib.hid (fun h => by rw [HST.out, h, hp.out]; simp)
          have hpre : Hid (∀ x : Cel, x.1 = (r + dr, c + dc) → keepB corners dr dc = true → (pre ++ [x]).map (·.1) <+: nbV r c corners 9) := Lib.hid (fun x hx h => by rw [hyes.out x hx h]; exact nbV_prefix r c corners (by omega))
          have hcs : (dr = 0 ∧ dc = 0) ∨ (dr = 0 ∧ dc ≠ 0) ∨ (dr ≠ 0 ∧ dc = 0) ∨ (dr ≠ 0 ∧ dc ≠ 0 ∧ corners = true) ∨ (dr ≠ 0 ∧ dc ≠ 0 ∧ corners = false) := by
            cases corners <;> by_cases h1 : dr = 0 <;> by_cases h2 : dc = 0 <;> simp [h1, h2]
          have hk1 : Hid ((dr = 0 ∧ dc = 0) ∨ (dr ≠ 0 ∧ dc ≠ 0 ∧ corners = false) → keepB corners dr dc = false) := Lib.hid (by unfold keepB; rintro (⟨h1, h2⟩ | ⟨h1, h2, h3⟩) <;> simp [*])
          have hk2 : Hid ((dr = 0 ∧ dc ≠ 0) ∨ (dr ≠ 0 ∧ dc = 0) ∨ (dr ≠ 0 ∧ dc ≠ 0 ∧ corners = true) → keepB corners dr dc = true) := Lib.hid (by unfold keepB; rintro (⟨h1, h2⟩ | ⟨h1, h2⟩ | ⟨h1, h2, h3⟩) <;> simp [*])
          have HB2 := Lib.hid HST.out
          clear HST HB2
          rcases hcs with ⟨h1, h2⟩ | ⟨h1, h2⟩ | ⟨h1, h2⟩ | ⟨h1, h2, h3⟩ | ⟨h1, h2, h3⟩
          · have HN := Lib.hid (hno.out (hk1.out (.inl ⟨h1, h2⟩)))
            clear hyes hno hpre hk1 hk2
            subst h1 h2
            gi_wp2
            go_roundw
            case rel => exact ⟨b + 1, pre, by omega, by have := HDC.out; go_num, HN, hJ, hB⟩
            case measure => (have := HDC.out; first | (simp [intOf]; done) | (simp [intOf]; omega))
          · have HK := Lib.hid (hk2.out (.inl ⟨h1, h2⟩))
            obtain ⟨x, hx1⟩ : ∃ x : Cel, x.1 = (r, c + dc) := ⟨⟨(r, c + dc), by refine ⟨⟨?_, ?_⟩, ⟨?_, ?_⟩⟩ <;> simp only <;> omega⟩, rfl⟩
            have hx2 : x.1 = (r + dr, c + dc) := hx1.trans (by simp [*])
            have HYES := Lib.hid (hyes.out x hx2 HK.out); have HPRE := Lib.hid (hpre.out x hx2 HK.out)
            obtain ⟨fn, tmps, assign, body, hy, hR⟩ := hY pre x wr hJ hlen
            rw [hx1] at hy
            dsimp only at hy
            clear hyes hno hpre hk1 hk2 HK hx1 hx2
            subst h1
            gi_wp2
            refine hR.mono ?_
            rintro e W3 (⟨rfl, hJ3, hk3⟩ | ⟨rfl, hJx3⟩)
            · gi_wp2
              go_roundw
              case rel => exact ⟨b + 1, pre ++ [x], by omega, by have := HDC.out; go_num, HYES, hJ3, hB.trans hk3⟩
              case measure => (have := HDC.out; first | (simp [intOf]; done) | (simp [intOf]; omega))
            · gi_wp2
              refine bodyPost_ret (results_none rfl _ _ _) rfl ?_
              exact ⟨⟨_, rfl⟩, .inr ⟨_, HPRE.out, hJx3⟩⟩
          · have HK := Lib.hid (hk2.out (.inr (.inl ⟨h1, h2⟩)))
            obtain ⟨x, hx1⟩ : ∃ x : Cel, x.1 = (r + dr, c) := ⟨⟨(r + dr, c), by refine ⟨⟨?_, ?_⟩, ⟨?_, ?_⟩⟩ <;> simp only <;> omega⟩, rfl⟩
            have hx2 : x.1 = (r + dr, c + dc) := hx1.trans (by simp [*])
            have HYES := Lib.hid (hyes.out x hx2 HK.out); have HPRE := Lib.hid (hpre.out x hx2 HK.out)
            obtain ⟨fn, tmps, assign, body, hy, hR⟩ := hY pre x wr hJ hlen
            rw [hx1] at hy
            dsimp only at hy
            clear hyes hno hpre hk1 hk2 HK hx1 hx2
            subst h2
            gi_wp2
            refine hR.mono ?_
            rintro e W3 (⟨rfl, hJ3, hk3⟩ | ⟨rfl, hJx3⟩)
            · gi_wp2
              go_roundw
              case rel => exact ⟨b + 1, pre ++ [x], by omega, by have := HDC.out; go_num, HYES, hJ3, hB.trans hk3⟩
              case measure => (have := HDC.out; first | (simp [intOf]; done) | (simp [intOf]; omega))
            · gi_wp2
              refine bodyPost_ret (results_none rfl _ _ _) rfl ?_
              exact ⟨⟨_, rfl⟩, .inr ⟨_, HPRE.out, hJx3⟩⟩
          · have HK := Lib.hid (hk2.out (.inr (.inr ⟨h1, h2, h3⟩)))
            obtain ⟨x, hx1⟩ : ∃ x : Cel, x.1 = (r + dr, c + dc) := ⟨⟨(r + dr, c + dc), by refine ⟨⟨?_, ?_⟩, ⟨?_, ?_⟩⟩ <;> simp only <;> omega⟩, rfl⟩
            have hx2 : x.1 = (r + dr, c + dc) := hx1.trans (by simp [*])
            have HYES := Lib.hid (hyes.out x hx2 HK.out); have HPRE := Lib.hid (hpre.out x hx2 HK.out)
            obtain ⟨fn, tmps, assign, body, hy, hR⟩ := hY pre x wr hJ hlen
            rw [hx1] at hy
            dsimp only at hy
            clear hyes hno hpre hk1 hk2 HK hx1 hx2
            rw [h3] at c0'; clear h3
            have h1' : (dr != 0) = true := by simpa using h1
            have h2' : (dc != 0) = true := by simpa using h2
            gi_wp2
            refine hR.mono ?_
            rintro e W3 (⟨rfl, hJ3, hk3⟩ | ⟨rfl, hJx3⟩)
            · gi_wp2
              go_roundw
              case rel => exact ⟨b + 1, pre ++ [x], by omega, by have := HDC.out; go_num, HYES, hJ3, hB.trans hk3⟩
              case measure => (have := HDC.out; first | (simp [intOf]; done) | (simp [intOf]; omega))
            · gi_wp2
              refine bodyPost_ret (results_none rfl _ _ _) rfl ?_
              exact ⟨⟨_, rfl⟩, .inr ⟨_, HPRE.out, hJx3⟩⟩
          · have HN := Lib.hid (hno.out (hk1.out (.inr ⟨h1, h2, h3⟩)))
            clear hyes hno hpre hk1 hk2
            rw [h3] at c0'; clear h3
            have h1' : (dr != 0) = true := by simpa using h1
            have h2' : (dc != 0) = true := by simpa using h2
            gi_wp2
            go_roundw
            case rel => exact ⟨b + 1, pre, by omega, by have := HDC.out; go_num, HN, hJ, hB⟩
            case measure => (have := HDC.out; first | (simp [intOf]; done) | (simp [intOf]; omega))
        · obtain rfl : b = 3 := by omega
          clear hlt2
          gi_wp2
          refine ⟨⟨a + 1, pre, by omega, by go_num, Lib.hid (by rw [hp.out]; congr 1), hJ, hB⟩, by simp [intOf]; omega⟩
    · obtain rfl : a = 3 := by omega
      gi_wp2
      go_end0
      exact ⟨⟨_, rfl⟩, .inl ⟨pre, hp.out, hJ⟩⟩
end Go.Proofs.YtjimdnmdnjhnjaaGreatDoor
