/- Contracts: lists of numbers compared; the marks of the fifth example. Equality of values without pointers. Contract: the examples that the statements of chapter 8 begin with. -/
import Derived.DeepKeys
import Derived.Test.YtjimdnmdnjhnjaaGreatDoorZgFcN
import Derived.Test.YtjimdnmdnjhnjaaGreatDoorZgFbE
import Derived.Test.YtjimdnmdnjhnjaaGreatDoorZgFaH
namespace Go.Proofs.YtjimdnmdnjhnjaaGreatDoor
open Go.RowKit

theorem ints_eq {a b : List Int} (hl : a.length = b.length) (h : ∀ j (h1 : j < a.length) (h2 : j < b.length), j < a.length → a[j] = b[j]) : a = b :=
  List.ext_getElem hl (fun j h1 h2 => h j h1 h2 h1)

theorem more_drewN {w wr : World} (h : ∃ m, wr = w.drewN m) (n : Nat) : ∃ m, wr.drewN n = w.drewN m := by
  obtain ⟨m, rfl⟩ := h
  exact ⟨m + n, World.drewN_drewN ..⟩

set_option maxHeartbeats 1000000 in
theorem ints_q (a b : List Int) (A C : Option Addr) (ca cb B : Nat) (w : World) (ha : Row w B 1 A a.length (intsC a)) (hb : Row w B 1 C b.length (intsC b)) (hal : a.length ≤ 1000000000) (hbl : b.length ≤ 1000000000) (_hB : B ≤ w.heap.size) :
    Calls Tryz.prog 56 #[.slice A a.length ca, .slice C b.length cb] w fun e w' => e = .returned (.bool (decide (a = b))) ∧ ∃ m, w' = w.drewN m := by
  by_cases hl : a.length = b.length
  · have hl' : ((a.length : Int) != (b.length : Int)) = false := by simp [hl]
    go_enter Tryz.func56, Tryz.ntmps56
    go_wp2
    go_loopw [5] (fun i wr => ∃ k : Nat, k ≤ a.length ∧ i = .int .i64 k ∧ Hid (∀ j (h1 : j < a.length) (h2 : j < b.length), j < k → a[j] = b[j]) ∧ ∃ m, wr = w.drewN m) (fun i _ => a.length - (intOf i).toNat)
    case atStart => exact ⟨0, Nat.zero_le _, rfl, Lib.hid (fun j _ _ hj => absurd hj (by omega)), 0, rfl⟩
    case round =>
      obtain ⟨k, hk, rfl, HI, hBB⟩ := hrel
      have HBB := Lib.hid hBB
      have ha' : Row wr B 1 A a.length (intsC a) := by obtain ⟨m, rfl⟩ := hBB; exact ha.drewN m
      have hb' : Row wr B 1 C b.length (intsC b) := by obtain ⟨m, rfl⟩ := hBB; exact hb.drewN m
      have hzb : wr.heap.size = w.heap.size := by obtain ⟨m, rfl⟩ := hBB; rfl
      clear hBB
      by_cases hlt : k < a.length
      · have hltb : k < b.length := by omega
        obtain ⟨g, o, hA, hg, c0⟩ := intCell ha' hlt
        obtain ⟨g2, o2, hC, hg2, d0⟩ := intCell hb' hltb
        have HN : Hid (a[k] ≠ b[k] → a ≠ b) := Lib.hid (fun h e => h (by subst e; rfl))
        have HS : Hid (a[k] = b[k] → ∀ j (h1 : j < a.length) (h2 : j < b.length), j < k + 1 → a[j] = b[j]) := Lib.hid (fun h j h1 h2 hj => by
          by_cases e : j = k
          · subst e; exact h
          · exact HI.out j h1 h2 (by omega))
        generalize a[k] = x at *
        generalize b[k] = y at *
        subst hA; subst hC
        have i1 : ((k : Int) < (a.length : Int)) = True := by simp; omega
        have i2 : ((k : Int) < (b.length : Int)) = True := by simp; omega
        go_wp2
        go_quiet (fail)
        by_cases hxy : x = y
        · have hn : (x != y) = false := by simp [hxy]
          have HX := Lib.hid (HS.out hxy)
          clear HS HN hxy
          go_wp2
          refine ⟨⟨k + 1, by omega, by go_num, HX, more_drewN HBB.out _⟩, by simp [intOf]; omega⟩
        · have hn : (x != y) = true := by simpa using hxy
          have HX := Lib.hid (HN.out hxy)
          clear HS HN hxy
          go_wp2
          go_ret
          refine ⟨?_, more_drewN HBB.out _⟩
          rw [decide_eq_false HX.out]; rfl
      · have hX : Hid (a = b) := Lib.hid (ints_eq hl (fun j h1 h2 hj => HI.out j h1 h2 (by omega)))
        have i1 : ((k : Int) < (a.length : Int)) = False := by simp; omega
        go_wp2
        go_ret
        refine ⟨?_, HBB.out⟩
        rw [decide_eq_true hX.out]; rfl
  · have hl' : ((a.length : Int) != (b.length : Int)) = true := by simp; omega
    have HX : Hid (a ≠ b) := Lib.hid (fun e => hl (by rw [e]))
    go_enter Tryz.func56, Tryz.ntmps56
    go_wp2
    go_ret
    refine ⟨?_, 0, rfl⟩
    rw [decide_eq_false HX.out]; rfl

/-- A list of numbers, and the slice that holds it. -/
structure IvOk (w : World) (B : Nat) (q : Value × List Int) : Prop where
  len : q.2.length ≤ 1000000000
  row : ∃ A c, q.1 = .slice A q.2.length c ∧ Row w B 1 A q.2.length (intsC q.2)
theorem IvOk.below {w w' : World} {B C : Nat} {q : Value × List Int} (h : IvOk w B q) (hb : Below C w w') (hC : B ≤ C) : IvOk w' B q :=
  ⟨h.len, by obtain ⟨A, c, e, hr⟩ := h.row; exact ⟨A, c, e, hr.below hb hC⟩⟩
theorem valCell {w : World} {B : Nat} {A : Option Addr} {l : List Value} {n : Nat} (h : Row w B 1 A n l) {k : Nat} (hk : k < l.length) :
    ∃ g o, A = some ⟨g, o, none⟩ ∧ g < B ∧ w.cell? ⟨g, o + k, none⟩ = some l[k] := by
  obtain ⟨g, o, hA, hb, hc⟩ := h.2 (by have := h.1; omega)
  exact ⟨g, o, hA, hb, hc _ _ (by simp [hk])⟩

set_option maxHeartbeats 1000000 in
theorem lists_any (a b : List (Value × List Int)) (A C : Option Addr) (ca cb B : Nat) (w : World) (ha : Row w B 1 A a.length (a.map (·.1))) (hb : Row w B 1 C b.length (b.map (·.1))) (hai : ∀ q ∈ a, IvOk w B q) (hbi : ∀ q ∈ b, IvOk w B q)
    (hal : a.length ≤ 1000000000) (_hbl : b.length ≤ 1000000000) (hB : B ≤ w.heap.size) :
    Calls Tryz.prog 17 #[.slice A a.length ca, .slice C b.length cb] w fun e w' => e = .returned (.bool (decide (a.map (·.2) = b.map (·.2)))) ∧ Below w.heap.size w w' := by
  by_cases hl : a.length = b.length
  · have hl' : ((a.length : Int) != (b.length : Int)) = false := by simp [hl]
    have HAI := Lib.hid hai; have HBI := Lib.hid hbi
    clear hai hbi
    go_enter Tryz.func17, Tryz.ntmps17
    go_wp2
    go_loopw [5] (fun i wr => ∃ k : Nat, k ≤ a.length ∧ i = .int .i64 k ∧ Hid (∀ j (h1 : j < a.length) (h2 : j < b.length), j < k → a[j].2 = b[j].2) ∧ Below w.heap.size w wr) (fun i _ => a.length - (intOf i).toNat)
    case atStart => exact ⟨0, Nat.zero_le _, rfl, Lib.hid (fun j _ _ hj => absurd hj (by omega)), Below.refl _ _⟩
    case round =>
      obtain ⟨k, hk, rfl, HI, hBB⟩ := hrel
      have ha' := ha.below hBB hB
      have hb' := hb.below hBB hB
      have hzb := Below.size hBB
      by_cases hlt : k < a.length
      · have hltb : k < b.length := by omega
        obtain ⟨g, o, hA, hg, c0⟩ := valCell ha' (k := k) (by simpa using hlt)
        obtain ⟨g2, o2, hC, hg2, d0⟩ := valCell hb' (k := k) (by simpa using hltb)
        rw [List.getElem_map] at c0 d0
        obtain ⟨xl, xA, xc, xe, xr⟩ := (HAI.out _ (List.getElem_mem hlt)).below hBB hB
        obtain ⟨yl, yA, yc, ye, yr⟩ := (HBI.out _ (List.getElem_mem hltb)).below hBB hB
        rw [xe] at c0; rw [ye] at d0
        clear xe ye
        have HN : Hid (a[k].2 ≠ b[k].2 → a.map (·.2) ≠ b.map (·.2)) := Lib.hid (fun h e => h (by
          have := congrArg (fun l => l[k]?) e
          simpa [hlt, hltb] using this))
        have HS : Hid (a[k].2 = b[k].2 → ∀ j (h1 : j < a.length) (h2 : j < b.length), j < k + 1 → a[j].2 = b[j].2) := Lib.hid (fun h j h1 h2 hj => by
          by_cases e : j = k
          · subst e; exact h
          · exact HI.out j h1 h2 (by omega))
        generalize a[k].2 = x at *
        generalize b[k].2 = y at *
        subst hA; subst hC
        have i1 : ((k : Int) < (a.length : Int)) = True := by simp; omega
        have i2 : ((k : Int) < (b.length : Int)) = True := by simp; omega
        have l1 : g < wr.heap.size := by omega
        have l2 : g2 < wr.heap.size := by omega
        obtain ⟨D, hD⟩ : ∃ D, decide (x = y) = D := ⟨_, rfl⟩
        have HD := Lib.hid hD; clear hD
        have HQ := fun (n : Nat) => ints_q x y xA yA xc yc B (wr.drewN n) (xr.drewN _) (yr.drewN _) xl yl (show B ≤ wr.heap.size by omega)
        rw [HD.out] at HQ
        cases D
        · have hxy : x ≠ y := of_decide_eq_false HD.out
          have HX := Lib.hid (HN.out hxy)
          clear HS HN hxy
          go_wp2
          go_quiet ((go_at_call 56; exact Calls.quiet_of (HQ _)))
          go_wp2
          go_ret
          refine ⟨?_, below_drewN' hBB _⟩
          rw [decide_eq_false HX.out]; rfl
        · have hxy : x = y := of_decide_eq_true HD.out
          have HX := Lib.hid (HS.out hxy)
          clear HS HN hxy
          go_wp2
          go_quiet ((go_at_call 56; exact Calls.quiet_of (HQ _)))
          go_wp2
          refine ⟨⟨k + 1, by omega, by go_num, HX, below_drewN' hBB _⟩, by simp [intOf]; omega⟩
      · have hX : Hid (a.map (·.2) = b.map (·.2)) := Lib.hid (List.ext_getElem (by simp [hl]) (fun j h1 h2 => by
          simp only [List.getElem_map]
          simp only [List.length_map] at h1 h2
          exact HI.out j h1 h2 (by omega)))
        have i1 : ((k : Int) < (a.length : Int)) = False := by simp; omega
        go_wp2
        go_ret
        refine ⟨?_, hBB⟩
        rw [decide_eq_true hX.out]; rfl
  · have hl' : ((a.length : Int) != (b.length : Int)) = true := by simp; omega
    have HX : Hid (a.map (·.2) ≠ b.map (·.2)) := Lib.hid (fun e => hl (by have := congrArg List.length e; simpa using this))
    go_enter Tryz.func17, Tryz.ntmps17
    go_wp2
    go_ret
    refine ⟨?_, (by repeat (first | (with_reducible exact Below.refl _ _) | (with_reducible assumption) | ((with_reducible refine Below.setCell ?_ ?_ _); rotate_left; · (first | exact Nat.le_refl _ | (simp; done) | (simp; omega) | omega)) | ((with_reducible refine Below.alloc ?_ ?_ _); rotate_left; · (first | exact Nat.le_refl _ | (simp; done) | (simp; omega) | omega)) | (with_reducible apply Below.drew) | (with_reducible apply below_drewN') | (refine Below.trans ?_ (Below.mono (by assumption) (by first | exact Nat.le_refl _ | (simp; done) | (simp; omega) | omega))) | exact Below.refl _ _ | assumption))⟩
    rw [decide_eq_false HX.out]; rfl

set_option maxHeartbeats 400000 in
theorem whole_any (n : Int) (w : World) : Calls Tryz.prog 15 #[.int .i64 n] w fun e w' => e = .returned (.agg #[.int .i64 n, .int .i64 1]) ∧ Below w.heap.size w w' := by
  go_enter Tryz.func15, Tryz.ntmps15
  have b2 := Blk.new w 52 #[.int .i64 n, .int .i64 1]
  have u0 := b2.cell 0
  have u1 := b2.cell 1
  go_wp2
  exact bodyPost_ret (v := .agg #[.int .i64 n, .int .i64 1]) (by simp [results, Tryz.results15, go_sem, u0, u1]) rfl ⟨rfl, (by repeat (first | (with_reducible exact Below.refl _ _) | (with_reducible assumption) | ((with_reducible refine Below.setCell ?_ ?_ _); rotate_left; · (first | exact Nat.le_refl _ | (simp; done) | (simp; omega) | omega)) | ((with_reducible refine Below.alloc ?_ ?_ _); rotate_left; · (first | exact Nat.le_refl _ | (simp; done) | (simp; omega) | omega)) | (with_reducible apply Below.drew) | (with_reducible apply below_drewN') | (refine Below.trans ?_ (Below.mono (by assumption) (by first | exact Nat.le_refl _ | (simp; done) | (simp; omega) | omega))) | exact Below.refl _ _ | assumption))⟩

/-- The marks of the fifth example. -/
def three : List Mk := [⟨⟨#[97]⟩, 0, 100, 0, 10, 0⟩, ⟨⟨#[98]⟩, 150, 200, 0, 10, 0⟩, ⟨⟨#[99]⟩, 260, 300, 0, 10, 0⟩]
set_option maxHeartbeats 400000 in
theorem three_any (w : World) : Calls Tryz.prog 14 #[] w fun e w' => e = .returned (.slice (some ⟨w.heap.size, 0, none⟩) three.length 3) ∧ MkOk three (some ⟨w.heap.size, 0, none⟩) w'.heap.size w' ∧ Below w.heap.size w w' := by
  go_enter Tryz.func14, Tryz.ntmps14
  go_wp2
  go_ret
  have h0 := Blk.new w 25 (mksC three).toArray
  refine ⟨rfl, ⟨by decide, ⟨rfl, fun _ => ⟨w.heap.size, 0, rfl, h0.lt, fun j u hj => ?_⟩⟩, ?_⟩, (by repeat (first | (with_reducible exact Below.refl _ _) | (with_reducible assumption) | ((with_reducible refine Below.setCell ?_ ?_ _); rotate_left; · (first | exact Nat.le_refl _ | (simp; done) | (simp; omega) | omega)) | ((with_reducible refine Below.alloc ?_ ?_ _); rotate_left; · (first | exact Nat.le_refl _ | (simp; done) | (simp; omega) | omega)) | (with_reducible apply Below.drew) | (with_reducible apply below_drewN') | (refine Below.trans ?_ (Below.mono (by assumption) (by first | exact Nat.le_refl _ | (simp; done) | (simp; omega) | omega))) | exact Below.refl _ _ | assumption))⟩
  · rw [Nat.zero_add]
    have := h0.cell j
    rw [List.getElem?_toArray, hj] at this
    exact this
  · intro m hm
    simp only [three, List.mem_cons, List.not_mem_nil, or_false] at hm
    rcases hm with rfl | rfl | rfl <;> decide
end Go.Proofs.YtjimdnmdnjhnjaaGreatDoor

namespace Go.Proofs.YtjimdnmdnjhnjaaGreatDoor
open Go.RowKit

theorem run_eq_int {d : Nat} (a c : Int) (w : World) : (Op.equalIn (d + 1) 3 (.int .i64 a) (.int .i64 c)).run Tryz.prog w = .ok (decide (a = c)) w := by
  have hu : Tryz.prog.underlying 3 = some (.int .i64) := by kernel_rfl
  simp [Op.equalIn, run_underlying hu]
  rfl
theorem run_eq_str {d : Nat} (a c : ByteArray) (w : World) : (Op.equalIn (d + 1) 9 (.string a) (.string c)).run Tryz.prog w = .ok (a == c) w := by
  have hu : Tryz.prog.underlying 9 = some .string := by kernel_rfl
  simp [Op.equalIn, run_underlying hu]
theorem part_int (xs : Array Value) (i : Nat) (a : Value) (h : xs[i]? = some a) (w : World) : (part 3 xs i).run Tryz.prog w = .ok a w := run_part_plain w (by kernel_rfl) h
theorem part_str (xs : Array Value) (i : Nat) (a : Value) (h : xs[i]? = some a) (w : World) : (part 9 xs i).run Tryz.prog w = .ok a w := run_part_plain w (by kernel_rfl) h
theorem eq_range' (d : Nat) (a b c e : Int) (w : World) : (Op.equalIn (d + 2) 23 (.agg #[.int .i64 a, .int .i64 b]) (.agg #[.int .i64 c, .int .i64 e])).run Tryz.prog w = .ok (decide (a = c) && decide (b = e)) w := by
  have hs : (Tryz.prog.stoodInHeld 23) = false := by kernel_rfl
  unfold Op.equalIn
  by_cases h1 : a = c <;> by_cases h2 : b = e <;>
    simp [run_underlying Tryz.underlying23, hs, part_int, run_eq_int, h1, h2]
theorem eq_cell' (d : Nat) (a b c e : Int) (w : World) : (Op.equalIn (d + 2) 62 (.agg #[.int .i64 a, .int .i64 b]) (.agg #[.int .i64 c, .int .i64 e])).run Tryz.prog w = .ok (decide (a = c) && decide (b = e)) w := by
  obtain ⟨i, hi⟩ := Option.isSome_iff_exists.1 (show (Tryz.prog.info? 3).isSome = true by kernel_rfl)
  have hc : Tryz.prog.cellsOf 3 = 1 := by kernel_rfl
  rw [run_equalIn_array w (d + 1) _ _ Tryz.underlying62 hi, hc]
  by_cases h1 : a = c <;> by_cases h2 : b = e <;>
    simp [List.range, List.range.loop, Op.eqItems, part_int, run_eq_int, h1, h2]
theorem eq_range (a b c e : Int) (w : World) : (Op.equalIn 10000 23 (.agg #[.int .i64 a, .int .i64 b]) (.agg #[.int .i64 c, .int .i64 e])).run Tryz.prog w = .ok (decide (a = c) && decide (b = e)) w := eq_range' 9998 a b c e w
theorem eq_cell (a b c e : Int) (w : World) : (Op.equalIn 10000 62 (.agg #[.int .i64 a, .int .i64 b]) (.agg #[.int .i64 c, .int .i64 e])).run Tryz.prog w = .ok (decide (a = c) && decide (b = e)) w := eq_cell' 9998 a b c e w

theorem eq_range_same (a b : Int) (w : World) : (Op.equalIn 10000 23 (.agg #[.int .i64 a, .int .i64 b]) (.agg #[.int .i64 a, .int .i64 b])).run Tryz.prog w = .ok true w := (eq_range a b a b w).trans (by simp)
theorem eq_cell_same (a b : Int) (w : World) : (Op.equalIn 10000 62 (.agg #[.int .i64 a, .int .i64 b]) (.agg #[.int .i64 a, .int .i64 b])).run Tryz.prog w = .ok true w := (eq_cell a b a b w).trans (by simp)
end Go.Proofs.YtjimdnmdnjhnjaaGreatDoor

namespace Go.Proofs.YtjimdnmdnjhnjaaGreatDoor
open Go.RowKit

/-- The area of the first example. -/
structure AwA (w : World) (g c : Nat) (A : Option Addr) : Prop where
  base : g < w.heap.size
  c0 : w.cell? ⟨g, 0, none⟩ = some (.slice A 3 c)
  c1 : w.cell? ⟨g, 1, none⟩ = some (.int .i64 0)
  c2 : w.cell? ⟨g, 2, none⟩ = some (.int .i64 2)
  c3 : w.cell? ⟨g, 3, none⟩ = some (.int .i64 7)
theorem AwA.below {w w' : World} {g c C : Nat} {A : Option Addr} (h : AwA w g c A) (hb : Below C w w') (hg : g < C) (hC : C ≤ w'.heap.size := by first | exact Below.size ‹_› | omega) : AwA w' g c A :=
  ⟨by omega, (hb.cell (p := ⟨g, 0, none⟩) hg).trans h.c0, (hb.cell (p := ⟨g, 1, none⟩) hg).trans h.c1, (hb.cell (p := ⟨g, 2, none⟩) hg).trans h.c2, (hb.cell (p := ⟨g, 3, none⟩) hg).trans h.c3⟩
/-- Lists of numbers, in memory. -/
structure LsOk (B : Nat) (w : World) (A : Option Addr) (a : List (Value × List Int)) : Prop where
  base : B ≤ w.heap.size
  row : Row w B 1 A a.length (a.map (·.1))
  each : ∀ q ∈ a, IvOk w B q
theorem LsOk.below {B C : Nat} {w w' : World} {A : Option Addr} {a : List (Value × List Int)} (h : LsOk B w A a) (hb : Below C w w') (hC : B ≤ C) (hC' : C ≤ w'.heap.size := by first | exact Below.size ‹_› | omega) : LsOk B w' A a :=
  ⟨by omega, h.row.below hb hC, fun q hq => (h.each q hq).below hb hC⟩
theorem row_own {w : World} {base e n c : Nat} {A : Option Addr} {xs : List Value} (h : w.ownsRow base e 1 (.slice A n c) n xs) (hl : xs.length = n) : Row w w.heap.size 1 A n xs :=
  ⟨by omega, fun hn => by
    obtain ⟨g, c', hv, h1, h2⟩ := h.form hn
    injection hv with e1 e2 e3
    subst e1
    exact ⟨g, 0, rfl, h2, fun j u hj => by have := h.cells (g := g) rfl j u hj; rwa [Addr.add_lit] at this⟩⟩

theorem sort10 : sortV [1, 0] = [0, 1] := by
  have h : (sortV [1, 0]).Perm [1, 0] := List.mergeSort_perm ..
  have hs : (sortV [1, 0]).Pairwise (fun x y => decide (x ≤ y) = true) := List.pairwise_mergeSort (fun a b c h1 h2 => by simp at *; omega) (fun a b => by simp; omega) _
  generalize sortV [1, 0] = L at *
  match L, h.length_eq with
  | [x, y], _ =>
    have hx : x = 1 ∨ x = 0 := by simpa using h.mem_iff.1 (show x ∈ [x, y] by simp)
    have h1 : (1 : Int) = x ∨ 1 = y := by simpa using h.mem_iff.2 (show (1 : Int) ∈ [1, 0] by simp)
    have h0 : (0 : Int) = x ∨ 0 = y := by simpa using h.mem_iff.2 (show (0 : Int) ∈ [1, 0] by simp)
    simp at hs
    congr <;> omega
theorem sort2 : sortV [2] = [2] := by
  have h : (sortV [2]).Perm [2] := List.mergeSort_perm ..
  exact List.perm_singleton.1 h
theorem three_err : groupedE three ⟨50, 0, 0, 1⟩ = 0 := by decide +kernel
theorem three_groups : (groupsV ⟨50, 0, 0, 1⟩ 0 three []).map (fun g => g.1) = [[1, 0], [2]] := by decide +kernel
theorem three_ds {Ds : List Rw} (h : (Ds.map (·.ns)).Perm ((groupsV ⟨50, 0, 0, 1⟩ 0 three []).map fun g => sortV g.1)) (hs : Ds.Pairwise (fun x y => hd x ≤ hd y)) : Ds.map (·.ns) = [[0, 1], [2]] := by
  have e : (groupsV ⟨50, 0, 0, 1⟩ 0 three []).map (fun g => sortV g.1) = [[0, 1], [2]] := by
    have : (groupsV ⟨50, 0, 0, 1⟩ 0 three []).map (fun g => sortV g.1) = ((groupsV ⟨50, 0, 0, 1⟩ 0 three []).map (fun g => g.1)).map sortV := by rw [List.map_map]; rfl
    rw [this, three_groups]
    simp only [List.map_cons, List.map_nil, sort10, sort2]
  rw [e] at h
  match Ds, h.length_eq with
  | [x, y], _ =>
    simp only [List.map_cons, List.map_nil] at h ⊢
    have hx : x.ns = [0, 1] ∨ x.ns = [2] := by simpa using h.mem_iff.1 (show x.ns ∈ [x.ns, y.ns] by simp)
    have hy : y.ns = [0, 1] ∨ y.ns = [2] := by simpa using h.mem_iff.1 (show y.ns ∈ [x.ns, y.ns] by simp)
    have h1 : [0, 1] = x.ns ∨ [0, 1] = y.ns := by simpa using h.mem_iff.2 (show ([0, 1] : List Int) ∈ [[0, 1], [2]] by simp)
    have h2 : [2] = x.ns ∨ [2] = y.ns := by simpa using h.mem_iff.2 (show ([2] : List Int) ∈ [[0, 1], [2]] by simp)
    simp only [List.pairwise_cons, List.mem_singleton, forall_eq] at hs
    have hxy := hs.1
    unfold hd at hxy
    rcases hx with hx | hx <;> rcases hy with hy | hy <;> rw [hx, hy] at h1 h2 hxy ⊢ <;> first | rfl | (simp at h2; done) | (simp at h1; done) | (simp at hxy; done)

theorem threeGrouped_any (w : World) (A : Option Addr) (h : MkOk three A w.heap.size w) :
    Calls Tryz.prog 13 #[.slice A 3 3, .agg #[.int .i64 50, .int .i64 0, .int .i64 0, .int .i64 1]] w fun e w' => ∃ g c a, e = .returned (.tuple #[.slice (some ⟨g, 0, none⟩) 2 c, .int .i64 0]) ∧ LsOk w'.heap.size w' (some ⟨g, 0, none⟩) a ∧ a.length = 2 ∧ a.map (·.2) = [[0, 1], [2]] ∧ Below w.heap.size w w' := by
  refine (grouped_ok three A 3 w.heap.size ⟨50, 0, 0, 1⟩ w h (by decide) (Nat.le_refl _) (by unfold W64; decide) (by unfold W64; decide) three_err).mono ?_
  rintro e w' ⟨v, Ds, rfl, hp, hs, hrow, heach, hB⟩
  have hD := three_ds hp hs
  have hl : Ds.length = 2 := by simpa using congrArg List.length hD
  rw [hl] at hrow
  obtain ⟨g, c, rfl, h1, h2⟩ := hrow.form (by omega)
  refine ⟨g, c, Ds.map (fun q => (rwV q, q.ns)), rfl, ⟨Nat.le_refl _, ?_, ?_⟩, by simpa using hl, by rw [List.map_map]; exact hD, hB⟩
  · rw [List.length_map, hl, List.map_map]
    exact row_own hrow (by simpa using hl)
  · intro q hq
    obtain ⟨x, hx, rfl⟩ := List.mem_map.1 hq
    have hm : x.ns ∈ Ds.map (·.ns) := List.mem_map_of_mem (f := (·.ns)) hx
    rw [hD] at hm
    have hlen : x.ns.length ≤ 1000000000 := by
      simp only [List.mem_cons, List.not_mem_nil, or_false] at hm
      rcases hm with e | e <;> rw [e] <;> decide
    exact ⟨hlen, _, _, rfl, row_own (heach x hx) (by simp [intsC])⟩

def five (A : Option Addr) (c : Nat) : Sc := ⟨0, 0, 5, 1, [1, 4, 8, 5, 2], A, c⟩
theorem five_val (A : Option Addr) (c : Nat) : dropV [five A c] 2 0 0 1 2 = ⟨2, 4, 0⟩ := by
  have h1 : runV (seqV [five A c] 2 0 0 (-1)) (atV [five A c] 2 0) 1 2 300000 0 = some 1 := by rfl
  have h2 : runV (seqV [five A c] 2 0 0 1) (atV [five A c] 2 0) 1 2 300000 0 = some 1 := by rfl
  have hb : bothV [five A c] 2 0 0 1 2 = ⟨2, 4, 0⟩ := by unfold bothV; rw [h1]; dsimp only; rw [h2]; rfl
  have e1 : (scansE [five A c]).2 = 0 := by rfl
  have e2 : atV [five A c] 2 0 = 8 := by rfl
  have e3 : wi 0 0 1 = true := by rfl
  have e4 : lowB 1 2 = true := by rfl
  unfold dropV
  rw [e1, e2, e3, e4, hb]
  rfl

theorem fiveDrop_any (w : World) (A Aa : Option Addr) (c c' : Nat) (h : ScOk [five A c] Aa w.heap.size w) :
    Calls Tryz.prog 16 #[.slice Aa 1 c', .agg #[.int .i64 2, .int .i64 0, .int .i64 0], .agg #[.int .i64 1, .int .i64 2]] w fun e w' => e = .returned (.tuple #[.agg #[.int .i64 2, .int .i64 4], .int .i64 0]) ∧ Below w.heap.size w w' := by
  have H := drop_any [five A c] Aa c' w.heap.size 2 0 0 1 2 w h (Nat.le_refl _) (by unfold W64; decide) (by unfold W64; decide) (by unfold W64; decide) (by unfold W64; decide)
  rw [five_val] at H
  exact H
def outs (U : World) : List (Value × List Int) := [(.slice (some ⟨U.heap.size, 0, none⟩) 2 2, [0, 1]), (.slice (some ⟨U.heap.size + 1, 0, none⟩) 1 1, [2])]
def outW (U : World) : World := ((U.alloc (.cells #[.int .i64 0, .int .i64 1] 3)).alloc (.cells #[.int .i64 2] 3)).alloc (.cells #[.slice (some ⟨U.heap.size, 0, none⟩) 2 2, .slice (some ⟨U.heap.size + 1, 0, none⟩) 1 1] 57)
theorem outLists_any (U : World) (B g5 c5 : Nat) (a5 : List (Value × List Int)) (hL : LsOk B U (some ⟨g5, 0, none⟩) a5) (h2 : a5.length = 2) (h3 : a5.map (·.2) = [[0, 1], [2]]) :
    Calls Tryz.prog 17 #[.slice (some ⟨g5, 0, none⟩) 2 c5, .slice (some ⟨U.heap.size + 1 + 1, 0, none⟩) 2 2] (outW U) fun e w' => e = .returned (.bool true) ∧ Below U.heap.size U w' := by
  have d0 := ((Blk.new U 3 #[.int .i64 0, .int .i64 1]).alloc (.cells #[.int .i64 2] 3)).alloc (.cells #[.slice (some ⟨U.heap.size, 0, none⟩) 2 2, .slice (some ⟨U.heap.size + 1, 0, none⟩) 1 1] 57)
  have d1 := (Blk.new (U.alloc (.cells #[.int .i64 0, .int .i64 1] 3)) 3 #[.int .i64 2]).alloc (.cells #[.slice (some ⟨U.heap.size, 0, none⟩) 2 2, .slice (some ⟨U.heap.size + 1, 0, none⟩) 1 1] 57)
  have d2 := Blk.new ((U.alloc (.cells #[.int .i64 0, .int .i64 1] 3)).alloc (.cells #[.int .i64 2] 3)) 57 #[.slice (some ⟨U.heap.size, 0, none⟩) 2 2, .slice (some ⟨U.heap.size + 1, 0, none⟩) 1 1]
  simp only [World.size_alloc] at d1 d2
  have hB : Below U.heap.size U (outW U) := by unfold outW; exact (by repeat (first | (with_reducible exact Below.refl _ _) | (with_reducible assumption) | ((with_reducible refine Below.setCell ?_ ?_ _); rotate_left; · (first | exact Nat.le_refl _ | (simp; done) | (simp; omega) | omega)) | ((with_reducible refine Below.alloc ?_ ?_ _); rotate_left; · (first | exact Nat.le_refl _ | (simp; done) | (simp; omega) | omega)) | (with_reducible apply Below.drew) | (with_reducible apply below_drewN') | (refine Below.trans ?_ (Below.mono (by assumption) (by first | exact Nat.le_refl _ | (simp; done) | (simp; omega) | omega))) | exact Below.refl _ _ | assumption))
  have hz : (outW U).heap.size = U.heap.size + 3 := by unfold outW; simp
  have hb : LsOk (outW U).heap.size (outW U) (some ⟨U.heap.size + 1 + 1, 0, none⟩) (outs U) := by
    refine ⟨Nat.le_refl _, ⟨rfl, fun _ => ⟨_, 0, rfl, by omega, fun j u hj => ?_⟩⟩, ?_⟩
    · rw [Nat.zero_add]
      refine (d2.cell j).trans ?_
      rw [← hj]; simp [outs]
    · intro q hq
      simp only [outs, List.mem_cons, List.not_mem_nil, or_false] at hq
      rcases hq with rfl | rfl
      · exact ⟨by simp, _, _, rfl, rfl, fun _ => ⟨_, 0, rfl, by omega, fun j u hj => by
          rw [Nat.zero_add]
          refine (d0.cell j).trans ?_
          rw [← hj]; simp [intsC]⟩⟩
      · exact ⟨by simp, _, _, rfl, rfl, fun _ => ⟨_, 0, rfl, by omega, fun j u hj => by
          rw [Nat.zero_add]
          refine (d1.cell j).trans ?_
          rw [← hj]; simp [intsC]⟩⟩
  have ha := hL.below hB hL.base (by omega)
  have H := lists_any a5 (outs U) (some ⟨g5, 0, none⟩) (some ⟨U.heap.size + 1 + 1, 0, none⟩) c5 2 (outW U).heap.size (outW U) (ha.row.more ha.base) hb.row (fun q hq => by
    obtain ⟨k1, A, c, k2, k3⟩ := ha.each q hq
    exact ⟨k1, A, c, k2, k3.more ha.base⟩) hb.each (by omega) (by simp [outs]) (Nat.le_refl _)
  rw [h2] at H
  refine H.mono ?_
  rintro e w' ⟨rfl, hw⟩
  refine ⟨?_, hB.trans (Below.mono hw (by omega))⟩
  rw [h3]; rfl
/-- The marks of the fifth example, in memory. -/
structure Thr (w : World) (B : Nat) (A : Option Addr) : Prop where
  base : B ≤ w.heap.size
  ok : MkOk three A B w
theorem Thr.below {w w' : World} {B C : Nat} {A : Option Addr} (h : Thr w B A) (hb : Below C w w') (hC : B ≤ C) (hC' : C ≤ w'.heap.size := by first | exact Below.size ‹_› | omega) : Thr w' B A :=
  ⟨by omega, h.ok.below hb hC⟩
theorem Thr.all {w : World} {B : Nat} {A : Option Addr} (h : Thr w B A) : MkOk three A w.heap.size w := ⟨h.ok.len, h.ok.row.more h.base, h.ok.size⟩

set_option maxRecDepth 100000 in
set_option maxHeartbeats 1000000 in
theorem awake_any (w : World) : Calls Tryz.prog 4 #[] w fun e w' => e = .returned (.bool true) ∧ Below w.heap.size w w' := by
  go_enter Tryz.func4, Tryz.ntmps4
  go_wp2_with fail
  refine (six_any w).mono ?_
  rintro e w1 ⟨rfl, hS, hB1⟩
  go_wp2_with fail
  refine (sixAreas_any w1 _ _ 1 6 _ hS (Nat.le_refl _)).mono ?_
  rintro e w2 ⟨g, v, cap', rfl, hg0, hg1, c0, c1, c2, c3, ⟨A, c, rfl⟩, hB2⟩
  have hBB : Below w.heap.size w w2 := hB1.trans (hB2.mono (Below.size hB1))
  have hA : AwA w2 g c A := ⟨hg1, c0, c1, c2, c3⟩
  clear hB1 hB2 hS hg0 hg1 c0 c1 c2 c3
  go_wp2_with fail
  refine (tipDepth_any ⟨10000000, 10000000, 1800, 1800, 6000⟩ _).mono ?_
  rw [tip_val]; unfold reC
  rintro e wc1 ⟨rfl, hBc1⟩
  replace hA := hA.below hBc1 hA.base
  replace hBB := hBB.trans (Below.mono hBc1 (Below.size hBB))
  clear hBc1
  have b3 := Blk.new wc1 23 #[.int .i64 2400, .int .i64 2400]
  obtain ⟨W, hW⟩ : ∃ W, wc1.alloc (.cells #[.int .i64 2400, .int .i64 2400] 23) = W := ⟨_, rfl⟩
  have hs := Lib.hid (show wc1.heap.size < W.heap.size by rw [← hW]; simp)
  replace hBB : Below w.heap.size w W := by rw [← hW]; exact hBB.alloc (Below.size hBB) _
  replace hA : AwA W g c A := by rw [← hW]; exact hA.below ((Below.refl _ _).alloc (Nat.le_refl _) _) hA.base (by simp)
  rw [hW] at b3
  go_upto_region 3 with fail
  clear hW
  have l_b3 := b3.lt
  go_wp2_with fail
  refine (three_any _).mono ?_
  rintro e wc2 ⟨rfl, hM', hBc2⟩
  replace b3 := b3.gr hBc2
  replace hA := hA.below hBc2 hA.base
  have hM : Thr wc2 _ _ := ⟨Nat.le_refl _, hM'⟩
  clear hM'
  replace hBB := hBB.trans (Below.mono hBc2 (Below.size hBB))
  clear hBc2
  clear l_b3
  have l_b3 := b3.lt
  go_wp2_with fail
  refine (whole_any 0 _).mono ?_
  rintro e wc3 ⟨rfl, hBc3⟩
  replace b3 := b3.gr hBc3
  replace hA := hA.below hBc3 hA.base
  replace hM := hM.below hBc3 hM.base
  replace hBB := hBB.trans (Below.mono hBc3 (Below.size hBB))
  clear hBc3
  clear l_b3
  have l_b3 := b3.lt
  go_wp2_with fail
  refine (threeGrouped_any _ _ hM.all).mono ?_
  rintro e wc4 ⟨g5, c5, a5, rfl, hL, hL2, hL3, hBc4⟩
  replace b3 := b3.gr hBc4
  replace hA := hA.below hBc4 hA.base
  replace hM := hM.below hBc4 hM.base
  replace hBB := hBB.trans (Below.mono hBc4 (Below.size hBB))
  clear hBc4
  clear l_b3
  have l_b3 := b3.lt
  have hL2' := Lib.hid hL2; have hL3' := Lib.hid hL3
  clear hL2 hL3
  clear hM
  go_upto_region 4 with fail
  have d0 := (Blk.new wc4 3 #[.int .i64 1, .int .i64 4, .int .i64 8, .int .i64 5, .int .i64 2]).alloc (.cells #[.int .i64 0, .int .i64 0, .int .i64 5, .int .i64 1, .slice (some ⟨wc4.heap.size, 0, none⟩) 5 5] 59)
  have d1 := Blk.new (wc4.alloc (.cells #[.int .i64 1, .int .i64 4, .int .i64 8, .int .i64 5, .int .i64 2] 3)) 59 #[.int .i64 0, .int .i64 0, .int .i64 5, .int .i64 1, .slice (some ⟨wc4.heap.size, 0, none⟩) 5 5]
  simp only [World.size_alloc] at d1
  have hSc := ScOk.one (s := five (some ⟨wc4.heap.size, 0, none⟩) 5) d0 d1 rfl (by show (5 : Nat) ≤ 1000000000; decide)
  have hnw : Below wc4.heap.size wc4 ((wc4.alloc (.cells #[.int .i64 1, .int .i64 4, .int .i64 8, .int .i64 5, .int .i64 2] 3)).alloc (.cells #[.int .i64 0, .int .i64 0, .int .i64 5, .int .i64 1, .slice (some ⟨wc4.heap.size, 0, none⟩) 5 5] 59)) := (by repeat (first | (with_reducible exact Below.refl _ _) | (with_reducible assumption) | ((with_reducible refine Below.setCell ?_ ?_ _); rotate_left; · (first | exact Nat.le_refl _ | (simp; done) | (simp; omega) | omega)) | ((with_reducible refine Below.alloc ?_ ?_ _); rotate_left; · (first | exact Nat.le_refl _ | (simp; done) | (simp; omega) | omega)) | (with_reducible apply Below.drew) | (with_reducible apply below_drewN') | (refine Below.trans ?_ (Below.mono (by assumption) (by first | exact Nat.le_refl _ | (simp; done) | (simp; omega) | omega))) | exact Below.refl _ _ | assumption))
  clear d0 d1
  obtain ⟨V, hV⟩ : ∃ V, (wc4.alloc (.cells #[.int .i64 1, .int .i64 4, .int .i64 8, .int .i64 5, .int .i64 2] 3)).alloc (.cells #[.int .i64 0, .int .i64 0, .int .i64 5, .int .i64 1, .slice (some ⟨wc4.heap.size, 0, none⟩) 5 5] 59) = V := ⟨_, rfl⟩
  rw [hV] at hSc hnw
  replace hBB := hBB.trans (Below.mono hnw (Below.size hBB))
  replace hA := hA.below hnw hA.base (Below.size hnw)
  replace hL := hL.below hnw hL.base (Below.size hnw)
  replace b3 := b3.gr hnw
  clear l_b3 hnw
  have l_b3 := b3.lt
  go_wp2_with fail
  go_wp2_with fail
  refine (fiveDrop_any _ _ _ _ _ hSc).mono ?_
  rintro e wc5 ⟨rfl, hBc5⟩
  replace b3 := b3.gr hBc5
  replace hA := hA.below hBc5 hA.base
  replace hL := hL.below hBc5 hL.base
  clear hSc
  replace hBB := hBB.trans (Below.mono hBc5 (Below.size hBB))
  clear hBc5
  clear l_b3
  have l_b3 := b3.lt
  have b7 := Blk.new wc5 23 #[.int .i64 2, .int .i64 4]
  obtain ⟨U, hU⟩ : ∃ U, wc5.alloc (.cells #[.int .i64 2, .int .i64 4] 23) = U := ⟨_, rfl⟩
  replace b3 := b3.alloc (.cells #[.int .i64 2, .int .i64 4] 23)
  rw [hU] at b3 b7
  replace hBB : Below w.heap.size w U := by rw [← hU]; exact hBB.alloc (Below.size hBB) _
  replace hA : AwA U g c A := by rw [← hU]; exact hA.below ((Below.refl _ _).alloc (Nat.le_refl _) _) hA.base (by simp)
  replace hL : LsOk wc4.heap.size U (some ⟨g5, 0, none⟩) a5 := by rw [← hU]; exact hL.below ((Below.refl _ _).alloc (Nat.le_refl _) _) hL.base (by simp)
  go_upto_region 5 with fail
  clear hU
  obtain ⟨p0, p1, _⟩ := blk2c b3
  obtain ⟨q0, q1, _⟩ := blk2c b7
  have r0 := hA.c0; have r1 := hA.c1; have r2 := hA.c2; have r3 := hA.c3
  have E1 := eq_cell_same 0 2
  have E2 := eq_range_same 2400 2400
  have E3 := eq_range_same 2 4
  go_wp2_with fail
  clear hV
  refine (outLists_any U wc4.heap.size g5 c5 a5 hL hL2'.out hL3'.out).mono ?_
  rintro e w9 ⟨rfl, hB9⟩
  have hg := hA.base
  have x0 := b3.lt
  have x1 := b7.lt
  replace hBB := hBB.trans (Below.mono hB9 (Below.size hBB))
  obtain ⟨p0, p1, _⟩ := blk2c (b3.gr hB9)
  obtain ⟨q0, q1, _⟩ := blk2c (b7.gr hB9)
  clear hL b3 b7 hA r0 r1 r2 r3
  go_wp2
  go_ret
  exact ⟨rfl, hBB⟩
end Go.Proofs.YtjimdnmdnjhnjaaGreatDoor
