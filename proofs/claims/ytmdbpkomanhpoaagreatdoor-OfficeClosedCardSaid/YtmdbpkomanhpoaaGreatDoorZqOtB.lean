/- Contracts: whether a list has a number, a text, a Bool (slices.Contains). The book of calibration: what became of steps; contract of book.add. -/
import Derived.BigQuiet
import Derived.Test.YtmdbpkomanhpoaaGreatDoorZqOsG
import Derived.Test.YtmdbpkomanhpoaaGreatDoorZqOsB
import Derived.Test.YtmdbpkomanhpoaaGreatDoorZqOsW
namespace Go.Proofs.YtmdbpkomanhpoaaGreatDoor
open Go.RowKit

set_option maxHeartbeats 1000000 in
theorem indexI (l : List Int) (A : Option Addr) (c : Nat) (x : Int) (B : Nat) (w : World) (hn : l.length ≤ 1000000) (hR : Row w B 1 A l.length (l.map fun y => Value.int .i64 y)) :
    Calls Tryz.prog 212 #[.slice A l.length c, Value.int .i64 x] w fun e w' => e = .returned (.int .i64 (idxV (fun y => (x == y)) l)) ∧ w = w' := by
  go_enter Tryz.func212, Tryz.ntmps212
  go_wp2
  go_loop [8] (fun i => ∃ k : Nat, k ≤ l.length ∧ i = .int .i64 k ∧ Hid ((l.take k).any (fun y => (x == y)) = false)) (fun i => l.length - (intOf i).toNat)
  case atStart => exact ⟨0, Nat.zero_le _, rfl, rfl⟩
  case round =>
    obtain ⟨k, hk, rfl, HI⟩ := hrel
    by_cases hlt : k < l.length
    · obtain ⟨g, o, hA, hg, hc⟩ := hR.2 (by omega)
      have c0 := hc k (Value.int .i64 l[k]) (by simp [hlt])
      clear hc
      subst hA
      have HIT : Hid ((x == l[k]) = true → idxV (fun y => (x == y)) l = (k : Int)) := Lib.hid fun h => idxV_hit hlt HI.out h
      have HNX : Hid ((x == l[k]) = false → (l.take (k + 1)).any (fun y => (x == y)) = false) := Lib.hid fun h => by rw [any_take_snoc _ _ hlt, HI.out, h]; rfl
      generalize l[k] = y at *
      cases hs : (x == y)
      · have hs' : (x == y) = false := hs
        have HX := Lib.hid (HNX.out hs); have HS := Lib.hid hs; clear hs HIT HNX
        go_wp2
        refine ⟨⟨k + 1, by omega, by go_num, HX⟩, by simp [intOf]; omega⟩
      · have hs' : (x == y) = true := hs
        have HX := Lib.hid (HIT.out hs); have HS := Lib.hid hs; clear hs HIT HNX
        go_wp2
        go_ret
        exact ⟨by rw [HX.out]; rfl, rfl⟩
    · obtain rfl : k = l.length := by omega
      have HS : Hid _ := Lib.hid (idxV_none (by rw [List.take_length] at HI; exact HI.out))
      go_wp2
      go_ret
      exact ⟨by rw [HS.out]; rfl, rfl⟩

set_option maxHeartbeats 400000 in
theorem containsI (l : List Int) (A : Option Addr) (c : Nat) (x : Int) (B : Nat) (w : World) (hn : l.length ≤ 1000000) (hR : Row w B 1 A l.length (l.map fun y => Value.int .i64 y)) :
    Calls Tryz.prog 200 #[.slice A l.length c, Value.int .i64 x] w fun e w' => e = .returned (.bool (l.any fun y => (x == y))) ∧ w = w' := by
  have HX := Lib.hid (idxV_any (fun y => (x == y)) l)
  go_enter Tryz.func200, Tryz.ntmps200
  go_wp2_with fail
  refine (indexI l A c x B _ hn hR).mono ?_
  rintro e w1 ⟨rfl, rfl⟩
  go_wp2
  go_ret
  exact ⟨by rw [← HX.out]; rfl, rfl⟩

set_option maxHeartbeats 1000000 in
theorem indexS (l : List ByteArray) (A : Option Addr) (c : Nat) (x : ByteArray) (B : Nat) (w : World) (hn : l.length ≤ 1000000) (hR : Row w B 1 A l.length (l.map fun y => Value.string y)) :
    Calls Tryz.prog 71 #[.slice A l.length c, Value.string x] w fun e w' => e = .returned (.int .i64 (idxV (fun y => sameB x y) l)) ∧ w = w' := by
  go_enter Tryz.func71, Tryz.ntmps71
  go_wp2
  go_loop [8] (fun i => ∃ k : Nat, k ≤ l.length ∧ i = .int .i64 k ∧ Hid ((l.take k).any (fun y => sameB x y) = false)) (fun i => l.length - (intOf i).toNat)
  case atStart => exact ⟨0, Nat.zero_le _, rfl, rfl⟩
  case round =>
    obtain ⟨k, hk, rfl, HI⟩ := hrel
    by_cases hlt : k < l.length
    · obtain ⟨g, o, hA, hg, hc⟩ := hR.2 (by omega)
      have c0 := hc k (Value.string l[k]) (by simp [hlt])
      clear hc
      subst hA
      have HIT : Hid (sameB x l[k] = true → idxV (fun y => sameB x y) l = (k : Int)) := Lib.hid fun h => idxV_hit hlt HI.out h
      have HNX : Hid (sameB x l[k] = false → (l.take (k + 1)).any (fun y => sameB x y) = false) := Lib.hid fun h => by rw [any_take_snoc _ _ hlt, HI.out, h]; rfl
      generalize l[k] = y at *
      cases hs : sameB x y
      · have hs' : (x.toList == y.toList) = false := hs
        have HX := Lib.hid (HNX.out hs); have HS := Lib.hid hs; clear hs HIT HNX
        go_wp2
        refine ⟨⟨k + 1, by omega, by go_num, HX⟩, by simp [intOf]; omega⟩
      · have hs' : (x.toList == y.toList) = true := hs
        have HX := Lib.hid (HIT.out hs); have HS := Lib.hid hs; clear hs HIT HNX
        go_wp2
        go_ret
        exact ⟨by rw [HX.out]; rfl, rfl⟩
    · obtain rfl : k = l.length := by omega
      have HS : Hid _ := Lib.hid (idxV_none (by rw [List.take_length] at HI; exact HI.out))
      go_wp2
      go_ret
      exact ⟨by rw [HS.out]; rfl, rfl⟩

set_option maxHeartbeats 400000 in
theorem containsS (l : List ByteArray) (A : Option Addr) (c : Nat) (x : ByteArray) (B : Nat) (w : World) (hn : l.length ≤ 1000000) (hR : Row w B 1 A l.length (l.map fun y => Value.string y)) :
    Calls Tryz.prog 49 #[.slice A l.length c, Value.string x] w fun e w' => e = .returned (.bool (l.any fun y => sameB x y)) ∧ w = w' := by
  have HX := Lib.hid (idxV_any (fun y => sameB x y) l)
  go_enter Tryz.func49, Tryz.ntmps49
  go_wp2_with fail
  refine (indexS l A c x B _ hn hR).mono ?_
  rintro e w1 ⟨rfl, rfl⟩
  go_wp2
  go_ret
  exact ⟨by rw [← HX.out]; rfl, rfl⟩

set_option maxHeartbeats 1000000 in
theorem indexB (l : List Bool) (A : Option Addr) (c : Nat) (x : Bool) (B : Nat) (w : World) (hn : l.length ≤ 1000000) (hR : Row w B 1 A l.length (l.map fun y => Value.bool y)) :
    Calls Tryz.prog 135 #[.slice A l.length c, Value.bool x] w fun e w' => e = .returned (.int .i64 (idxV (fun y => (x == y)) l)) ∧ w = w' := by
  go_enter Tryz.func135, Tryz.ntmps135
  go_wp2
  go_loop [8] (fun i => ∃ k : Nat, k ≤ l.length ∧ i = .int .i64 k ∧ Hid ((l.take k).any (fun y => (x == y)) = false)) (fun i => l.length - (intOf i).toNat)
  case atStart => exact ⟨0, Nat.zero_le _, rfl, rfl⟩
  case round =>
    obtain ⟨k, hk, rfl, HI⟩ := hrel
    by_cases hlt : k < l.length
    · obtain ⟨g, o, hA, hg, hc⟩ := hR.2 (by omega)
      have c0 := hc k (Value.bool l[k]) (by simp [hlt])
      clear hc
      subst hA
      have HIT : Hid ((x == l[k]) = true → idxV (fun y => (x == y)) l = (k : Int)) := Lib.hid fun h => idxV_hit hlt HI.out h
      have HNX : Hid ((x == l[k]) = false → (l.take (k + 1)).any (fun y => (x == y)) = false) := Lib.hid fun h => by rw [any_take_snoc _ _ hlt, HI.out, h]; rfl
      generalize l[k] = y at *
      cases hs : (x == y)
      · have hs' : (x == y) = false := hs
        have HX := Lib.hid (HNX.out hs); have HS := Lib.hid hs; clear hs HIT HNX
        go_wp2
        refine ⟨⟨k + 1, by omega, by go_num, HX⟩, by simp [intOf]; omega⟩
      · have hs' : (x == y) = true := hs
        have HX := Lib.hid (HIT.out hs); have HS := Lib.hid hs; clear hs HIT HNX
        go_wp2
        go_ret
        exact ⟨by rw [HX.out]; rfl, rfl⟩
    · obtain rfl : k = l.length := by omega
      have HS : Hid _ := Lib.hid (idxV_none (by rw [List.take_length] at HI; exact HI.out))
      go_wp2
      go_ret
      exact ⟨by rw [HS.out]; rfl, rfl⟩

set_option maxHeartbeats 400000 in
theorem containsB (l : List Bool) (A : Option Addr) (c : Nat) (x : Bool) (B : Nat) (w : World) (hn : l.length ≤ 1000000) (hR : Row w B 1 A l.length (l.map fun y => Value.bool y)) :
    Calls Tryz.prog 96 #[.slice A l.length c, Value.bool x] w fun e w' => e = .returned (.bool (l.any fun y => (x == y))) ∧ w = w' := by
  have HX := Lib.hid (idxV_any (fun y => (x == y)) l)
  go_enter Tryz.func96, Tryz.ntmps96
  go_wp2_with fail
  refine (indexB l A c x B _ hn hR).mono ?_
  rintro e w1 ⟨rfl, rfl⟩
  go_wp2
  go_ret
  exact ⟨by rw [← HX.out]; rfl, rfl⟩

end Go.Proofs.YtmdbpkomanhpoaaGreatDoor

namespace Go.Proofs.YtmdbpkomanhpoaaGreatDoor
open Go.RowKit

/-- The last time that a step was done. -/
structure La where
  dn : Bool
  kp : Bool
  mi : Int
  wa : Int
def laF (a : La) : List Value := [.bool a.dn, .bool a.kp, .int .i64 a.mi, .int .i64 a.wa]
theorem laF_len (a : La) : (laF a).length = 4 := rfl
/-- An event. -/
structure Ev where
  mi : Int
  st : Int
  wa : Int
abbrev evC (x : Ev) : Array Value := #[.int .i64 x.mi, .int .i64 x.st, .int .i64 x.wa]
def szI (n : Int) : Int := max n (-n)
def addQ (s : St) (x : Ev) (i : Nat) (a : La) : La := if (i : Int) = x.st then ⟨true, true, x.mi, x.wa⟩ else if s.warm < szI (x.wa - a.wa) then { a with kp := false } else if (s.needs.any fun y => x.st == y) = true then { a with kp := false } else a
/-- What becomes of steps by an event. -/
def addL (l : List St) (x : Ev) (L : List La) : List La := L.mapIdx fun i a => match l[i]? with | some s => addQ s x i a | none => a
theorem addL_length (l : List St) (x : Ev) (L : List La) : (addL l x L).length = L.length := List.length_mapIdx
theorem addL_at {l : List St} {x : Ev} {L : List La} {i : Nat} (h : i < L.length) (hl : i < l.length) : (addL l x L)[i]? = some (addQ l[i] x i L[i]) := by
  unfold addL
  rw [List.getElem?_mapIdx, List.getElem?_eq_getElem h, Option.map_some, List.getElem?_eq_getElem hl]
theorem rowsLa_put {w : World} {base e cap g n k : Nat} {q : List La} (h : w.ownsRow base e 4 (.slice (some ⟨g, 0, none⟩) n cap) n (rowsC laF q)) (hk : k < q.length) (hn : q.length = n) (a : La) :
    ((((w.setCell ⟨g, k * 4, none⟩ (.bool a.dn)).setCell ⟨g, k * 4 + 1, none⟩ (.bool a.kp)).setCell ⟨g, k * 4 + 2, none⟩ (.int .i64 a.mi)).setCell ⟨g, k * 4 + 3, none⟩ (.int .i64 a.wa)).ownsRow base e 4 (.slice (some ⟨g, 0, none⟩) n cap) n (rowsC laF (q.set k a)) := by
  have h0 := own_put h (j := k * 4 + 0) (by omega) (.bool a.dn)
  rw [rowsC_set laF_len q k hk 0 (by omega) (.bool a.dn) { q[k] with dn := a.dn } rfl] at h0
  have h1 := own_put h0 (j := k * 4 + 1) (by omega) (.bool a.kp)
  rw [rowsC_set laF_len _ k (by simpa using hk) 1 (by omega) (.bool a.kp) { q[k] with dn := a.dn, kp := a.kp } (by rw [List.getElem_set_self]; rfl), List.set_set] at h1
  have h2 := own_put h1 (j := k * 4 + 2) (by omega) (.int .i64 a.mi)
  rw [rowsC_set laF_len _ k (by simpa using hk) 2 (by omega) (.int .i64 a.mi) { q[k] with dn := a.dn, kp := a.kp, mi := a.mi } (by rw [List.getElem_set_self]; rfl), List.set_set] at h2
  have h3 := own_put h2 (j := k * 4 + 3) (by omega) (.int .i64 a.wa)
  rw [rowsC_set laF_len _ k (by simpa using hk) 3 (by omega) (.int .i64 a.wa) a (by rw [List.getElem_set_self]; rfl), List.set_set] at h3
  exact h3
theorem rowsLa_put1 {w : World} {base e cap g n k : Nat} {q : List La} (h : w.ownsRow base e 4 (.slice (some ⟨g, 0, none⟩) n cap) n (rowsC laF q)) (hk : k < q.length) (hn : q.length = n) (b : Bool) :
    (w.setCell ⟨g, k * 4 + 1, none⟩ (.bool b)).ownsRow base e 4 (.slice (some ⟨g, 0, none⟩) n cap) n (rowsC laF (q.set k { q[k] with kp := b })) := by
  have h1 := own_put h (j := k * 4 + 1) (by omega) (.bool b)
  rw [rowsC_set laF_len _ k hk 1 (by omega) (.bool b) { q[k] with kp := b } rfl] at h1
  exact h1
/-- The cells of one element of an own row. -/
theorem own_at4 {w : World} {base e cap g n k : Nat} {q : List La} (h : w.ownsRow base e 4 (.slice (some ⟨g, 0, none⟩) n cap) n (rowsC laF q)) (hk : k < q.length) (_hn : q.length = n) :
    w.cell? ⟨g, k * 4, none⟩ = some (.bool q[k].dn) ∧ w.cell? ⟨g, k * 4 + 1, none⟩ = some (.bool q[k].kp) ∧ w.cell? ⟨g, k * 4 + 2, none⟩ = some (.int .i64 q[k].mi) ∧ w.cell? ⟨g, k * 4 + 3, none⟩ = some (.int .i64 q[k].wa) ∧ g < w.heap.size ∧ base ≤ g ∧ ∀ j, w.frozen? ⟨g, j, none⟩ = false := by
  have hcc := h.cells (g := g) rfl
  have hlt := h.lt g rfl
  have hat : ∀ j u, j < 4 → (laF q[k])[j]? = some u → w.cell? ⟨g, k * 4 + j, none⟩ = some u := fun j u hj hu => by
    have := hcc (k * 4 + j) u ((rowsC_get laF_len q k q[k] (List.getElem?_eq_getElem hk) j hj).trans hu)
    rwa [Addr.add_lit, Nat.zero_add] at this
  refine ⟨hat 0 _ (by omega) rfl, hat 1 _ (by omega) rfl, hat 2 _ (by omega) rfl, hat 3 _ (by omega) rfl, hlt.2, hlt.1, fun j => ?_⟩
  obtain ⟨_, hx | ⟨g', cap', cur, hv, hb, hh, _⟩⟩ := h
  · cases hx.1
  · cases hv
    exact (show Blk w g e cur from hh).frozen j

/-- A book in memory. -/
structure BkOk (l : List St) (A : Option Addr) (c B bk base g cap : Nat) (L : List La) (w : World) : Prop where
  st : StOk l A c B w
  blk : Blk w bk 248 #[.slice A l.length c, .slice (some ⟨g, 0, none⟩) l.length cap]
  own : w.ownsRow base 246 4 (.slice (some ⟨g, 0, none⟩) l.length cap) l.length (rowsC laF L)
  len : L.length = l.length
  ne : bk ≠ g
  lo : base ≤ bk
  le : B ≤ base
  wid : l.length ≤ 10
  warm : ∀ a ∈ L, -1000000 ≤ a.wa ∧ a.wa ≤ 1000000

set_option maxHeartbeats 400000 in
theorem size_any_ (n : Int) (h : -1000000000000 ≤ n ∧ n ≤ 1000000000000) (w : World) : Calls Tryz.prog 199 #[.int .i64 n] w fun e w' => e = .returned (.int .i64 (szI n)) ∧ w' = w := by
  go_enter Tryz.func199, Tryz.ntmps199
  go_wp2
  all_goals
    go_ret
    exact ⟨by unfold szI; show Ending.returned (Value.int .i64 _) = _; congr 2; try omega, rfl⟩
set_option maxHeartbeats 400000 in
theorem small_any_ (n m : Int) (h : 0 ≤ m ∧ m ≤ 1000000) (w : World) : Calls Tryz.prog 166 #[.int .i64 n, .int .i64 m] w fun e w' => e = .returned (.bool (wi n (-m) m)) ∧ w = w' := by
  go_enter Tryz.func166, Tryz.ntmps166
  go_wp2_with (go_at_call 121; refine (tnWithin_any _ _ _ _).mono ?_; rintro e w1 ⟨rfl, rfl⟩)
  go_ret
  exact ⟨rfl, rfl⟩

theorem addQ_hit {s : St} {x : Ev} {i : Nat} {a : La} (h : (i : Int) = x.st) : addQ s x i a = ⟨true, true, x.mi, x.wa⟩ := by unfold addQ; rw [if_pos h]
theorem addQ_warm {s : St} {x : Ev} {i : Nat} {a : La} (h : ¬ (i : Int) = x.st) (h1 : s.warm < szI (x.wa - a.wa)) : addQ s x i a = { a with kp := false } := by unfold addQ; rw [if_neg h, if_pos h1]
theorem addQ_need {s : St} {x : Ev} {i : Nat} {a : La} (h : ¬ (i : Int) = x.st) (h1 : ¬ s.warm < szI (x.wa - a.wa)) (h2 : (s.needs.any fun y => x.st == y) = true) : addQ s x i a = { a with kp := false } := by unfold addQ; rw [if_neg h, if_neg h1, if_pos h2]
theorem addQ_not {s : St} {x : Ev} {i : Nat} {a : La} (h : ¬ (i : Int) = x.st) (h1 : ¬ s.warm < szI (x.wa - a.wa)) (h2 : (s.needs.any fun y => x.st == y) = false) : addQ s x i a = a := by unfold addQ; rw [if_neg h, if_neg h1, if_neg (by simp [h2])]

set_option maxRecDepth 100000 in
set_option maxHeartbeats 4000000 in
theorem add_any_ (l : List St) (A : Option Addr) (c B bk base g cap : Nat) (L : List La) (x : Ev) (w : World) (h : BkOk l A c B bk base g cap L w) (hx : -1000000 ≤ x.wa ∧ x.wa ≤ 1000000) :
    Calls Tryz.prog 168 #[.pointer (some ⟨bk, 0, none⟩), .agg (evC x)] w fun e w' => e = .returned (.tuple #[]) ∧ BkOk l A c B bk base g cap (addL l x L) w' ∧ w.grownBy w' (some g) := by
  have HST := Lib.hid h.st; have bb := h.blk; have HO := Lib.hid h.own; have hLl := h.len; have hne := h.ne; have hlo := h.lo; have hle := h.le; have hg0 := (h.own.lt g rfl); have hwid := h.wid; have HW := Lib.hid h.warm
  clear h
  have hbb := bb.lt
  have bx := Blk.new w 166 (evC x)
  have hB0 : w.grownBy (w.alloc (.cells (evC x) 166)) (some g) := only_alloc (World.grownBy.refl _ _) _
  have HLL := Lib.hid hLl; clear hLl
  have e0 := bb.cell 0; have e1 := bb.cell 1
  go_enter Tryz.func168, Tryz.ntmps168
  go_wp2
  clear e0 e1
  go_loopw [11] (fun i wr => ∃ k : Nat, k ≤ l.length ∧ i = .int .i64 k ∧ Hid (∃ Q : List La, Q.length = l.length ∧ (∀ j, j < k → Q[j]? = (addL l x L)[j]?) ∧ (∀ j, k ≤ j → Q[j]? = L[j]?) ∧ wr.ownsRow base 246 4 (.slice (some ⟨g, 0, none⟩) l.length cap) l.length (rowsC laF Q)) ∧ w.grownBy wr (some g) ∧ Blk wr w.heap.size 166 (evC x)) (fun i _ => l.length - (intOf i).toNat)
  case atStart => exact ⟨0, Nat.zero_le _, rfl, Lib.hid ⟨L, HLL.out, fun _ h => absurd h (by omega), fun _ _ => rfl, (HO.out.alloc _)⟩, hB0, bx⟩
  case round =>
    obtain ⟨k, hk, rfl, HI, hGr, bxr⟩ := hrel
    have hBr : Below g w wr := (Below.refl g w).grown hGr (by omega) (fun q e => by cases e; exact Nat.le_refl _)
    have b1 := bb.grown hGr (fun e => hne (Option.some.inj e))
    have d0 := b1.cell 0; have d1 := b1.cell 1
    have hzr := Below.size hBr
    by_cases hkl : k < l.length
    · obtain ⟨gs, os, hA, hgs, s0, s1, s2, s3⟩ := (HST.out.row.below hBr (by omega)).at4 stF_len hkl rfl
      have HNR := Lib.hid ((HST.out.needs _ (List.getElem_mem hkl)).2.below hBr (by omega))
      have hnl := (HST.out.needs _ (List.getElem_mem hkl)).1
      have hkL : k < L.length := by rw [HLL.out]; exact hkl
      have HAT := Lib.hid (addL_at (x := x) hkL hkl)
      have hwa := HW.out _ (List.getElem_mem hkL)
      have HCL : Hid (wr.cell? ⟨g, k * 4, none⟩ = some (.bool L[k].dn) ∧ wr.cell? ⟨g, k * 4 + 1, none⟩ = some (.bool L[k].kp) ∧ wr.cell? ⟨g, k * 4 + 2, none⟩ = some (.int .i64 L[k].mi) ∧ wr.cell? ⟨g, k * 4 + 3, none⟩ = some (.int .i64 L[k].wa) ∧ g < wr.heap.size ∧ base ≤ g ∧ ∀ j, wr.frozen? ⟨g, j, none⟩ = false) := by
        obtain ⟨Q, q1, q2, q3, q4⟩ := HI.out
        have h0 := own_at4 q4 (k := k) (by rw [q1]; exact hkl) q1
        have h1 := q3 k (Nat.le_refl _)
        rw [List.getElem?_eq_getElem (by rw [q1]; exact hkl), List.getElem?_eq_getElem hkL] at h1
        rw [Option.some.inj h1] at h0
        exact Lib.hid h0
      obtain ⟨l0, l1, l2, l3, hg, hgb, lf⟩ := HCL.out
      have HPUT : Hid (∀ (a : La) (W : World), addQ l[k] x k L[k] = a → (∀ Q : List La, Q.length = l.length → wr.ownsRow base 246 4 (.slice (some ⟨g, 0, none⟩) l.length cap) l.length (rowsC laF Q) → (Q[k]? = some L[k]) → W.ownsRow base 246 4 (.slice (some ⟨g, 0, none⟩) l.length cap) l.length (rowsC laF (Q.set k a))) → (∃ Q : List La, Q.length = l.length ∧ (∀ j, j < k + 1 → Q[j]? = (addL l x L)[j]?) ∧ (∀ j, k + 1 ≤ j → Q[j]? = L[j]?) ∧ W.ownsRow base 246 4 (.slice (some ⟨g, 0, none⟩) l.length cap) l.length (rowsC laF Q))) := Lib.hid fun a W ha hW => by
        obtain ⟨Q, q1, q2, q3, q4⟩ := HI.out
        have hkQ : k < Q.length := by rw [q1]; exact hkl
        refine ⟨Q.set k a, by simpa using q1, fun j hj => ?_, fun j hj => ?_, hW Q q1 q4 (by rw [q3 k (Nat.le_refl _), List.getElem?_eq_getElem hkL])⟩
        · by_cases e : k = j
          · subst e
            rw [HAT.out, List.getElem?_set_self hkQ, ha]
          · rw [List.getElem?_set_ne e]
            exact q2 j (by omega)
        · rw [List.getElem?_set_ne (by omega)]
          exact q3 j (by omega)
      clear HI HAT HCL
      have x0 := bxr.cell 0; have x1 := bxr.cell 1; have x2 := bxr.cell 2
      have lx := bxr.lt; have lb1 := b1.lt
      have hgx : w.heap.size ≠ g := by omega
      obtain ⟨a, ha⟩ : ∃ a, L[k] = a := ⟨_, rfl⟩
      rw [ha] at hwa l0 l1 l2 l3
      obtain ⟨s, hs⟩ : ∃ s, l[k] = s := ⟨_, rfl⟩
      rw [hs] at s0 s1 s2 s3 HNR hnl
      rw [ha, hs] at HPUT
      clear ha hs
      subst hA
      by_cases hst : (k : Int) = x.st
      · have hst1 : ((k : Int) == x.st) = true := by simpa using hst
        have HX := Lib.hid (fun W hW => HPUT.out ⟨true, true, x.mi, x.wa⟩ W (addQ_hit hst) hW)
        have HST2 := Lib.hid hst; clear hst HPUT
        go_wp2
        refine ⟨⟨k + 1, by omega, by go_num, Lib.hid (HX.out _ fun Q q1 q4 _ => rowsLa_put q4 (by rw [q1]; exact hkl) q1 ⟨true, true, x.mi, x.wa⟩), ?_, ?_⟩, by simp [intOf]; omega⟩
        · exact only_setCell (only_setCell (only_setCell (only_setCell hGr (.inl rfl) _) (.inl rfl) _) (.inl rfl) _) (.inl rfl) _
        · exact (((bxr.far (p := ⟨g, k * 4, none⟩) hgx _).far (p := ⟨g, k * 4 + 1, none⟩) hgx _).far (p := ⟨g, k * 4 + 2, none⟩) hgx _).far (p := ⟨g, k * 4 + 3, none⟩) hgx _
      · have hst1 : ((k : Int) == x.st) = false := by simpa using hst
        have HSZ : Hid (∀ w : World, Calls Tryz.prog 199 #[.int .i64 (x.wa - a.wa)] w fun e w' => e = .returned (.int .i64 (szI (x.wa - a.wa))) ∧ w' = w) := Lib.hid fun w => size_any_ _ (by omega) w
        have hwr : IntKind.i64.wrap (x.wa - a.wa) = x.wa - a.wa := IntWalk.i64_in _ (by omega)
        obtain ⟨z, hz⟩ : ∃ z, szI (x.wa - a.wa) = z := ⟨_, rfl⟩
        rw [hz] at HSZ
        have HZ := Lib.hid hz; clear hz
        by_cases hw1 : s.warm < z
        · have HX := Lib.hid (fun W hW => HPUT.out { a with kp := false } W (addQ_warm hst (by rw [HZ.out]; exact hw1)) hW)
          have hw2 : decide (s.warm < z) = true := by simpa using hw1
          clear HPUT
          go_wp2
          go_quiet (first | (go_at_call 199; exact Calls.quiet_of_same (HSZ.out _)))
          clear hwr
          go_wp2
          refine ⟨⟨k + 1, by omega, by go_num, Lib.hid (HX.out _ fun Q q1 q4 q5 => ?_), ?_, ?_⟩, by simp [intOf]; omega⟩
          · have hkQ : k < Q.length := by rw [q1]; exact hkl
            rw [List.getElem?_eq_getElem hkQ] at q5
            have := rowsLa_put1 q4 hkQ q1 false
            rw [Option.some.inj q5] at this
            exact this
          · exact only_setCell (by first | exact hGr | exact only_drewN hGr _) (.inl rfl) _
          · exact bxr.far (p := ⟨g, k * 4 + 1, none⟩) hgx _
        · have hw2 : decide (s.warm < z) = false := by simpa using hw1
          have HCN : Hid (∀ w' : World, (∀ b o, w'.cell? ⟨b, o, none⟩ = wr.cell? ⟨b, o, none⟩) → Calls Tryz.prog 200 #[.slice s.A s.needs.length s.c, .int .i64 x.st] w' fun e w'' => e = .returned (.bool (s.needs.any fun y => x.st == y)) ∧ w'' = w') := Lib.hid fun w' hw' => (containsI s.needs s.A s.c x.st B w' hnl (HNR.out.keep fun b o _ => hw' b o)).mono fun e w'' h => ⟨h.1, h.2.symm⟩
          cases hc : s.needs.any fun y => x.st == y
          · rw [hc] at HCN
            have HX := Lib.hid (fun W hW => HPUT.out a W (addQ_not hst (by rw [HZ.out]; exact hw1) hc) hW)
            have HC2 := Lib.hid hc; clear HPUT hc
            go_wp2
            go_quiet (first | (go_at_call 199; exact Calls.quiet_of_same (HSZ.out _)) | (go_at_call 200; exact Calls.quiet_of_same (HCN.out _ (fun _ _ => rfl))))
            clear hwr
            go_wp2
            refine ⟨⟨k + 1, by omega, by go_num, Lib.hid (HX.out _ fun Q q1 q4 q5 => ?_), ?_, bxr⟩, by simp [intOf]; omega⟩
            · have hkQ : k < Q.length := by rw [q1]; exact hkl
              rw [List.getElem?_eq_getElem hkQ] at q5
              have e : Q.set k a = Q := by rw [← Option.some.inj q5]; exact List.set_getElem_self hkQ
              rw [e]
              exact q4
            · first | exact hGr | exact only_drewN hGr _
          · rw [hc] at HCN
            have HX := Lib.hid (fun W hW => HPUT.out { a with kp := false } W (addQ_need hst (by rw [HZ.out]; exact hw1) hc) hW)
            have HC2 := Lib.hid hc; clear HPUT hc
            go_wp2
            go_quiet (first | (go_at_call 199; exact Calls.quiet_of_same (HSZ.out _)) | (go_at_call 200; exact Calls.quiet_of_same (HCN.out _ (fun _ _ => rfl))))
            clear hwr
            go_wp2
            refine ⟨⟨k + 1, by omega, by go_num, Lib.hid (HX.out _ fun Q q1 q4 q5 => ?_), ?_, ?_⟩, by simp [intOf]; omega⟩
            · have hkQ : k < Q.length := by rw [q1]; exact hkl
              rw [List.getElem?_eq_getElem hkQ] at q5
              have := rowsLa_put1 q4 hkQ q1 false
              rw [Option.some.inj q5] at this
              exact this
            · exact only_setCell (by first | exact hGr | exact only_drewN hGr _) (.inl rfl) _
            · exact bxr.far (p := ⟨g, k * 4 + 1, none⟩) hgx _
    · obtain rfl : k = l.length := by omega
      have HF : Hid (wr.ownsRow base 246 4 (.slice (some ⟨g, 0, none⟩) l.length cap) l.length (rowsC laF (addL l x L))) := by
        obtain ⟨Q, q1, q2, q3, q4⟩ := HI.out
        obtain rfl : Q = addL l x L := List.ext_getElem? fun j => by
          by_cases hj : j < l.length
          · exact q2 j hj
          · rw [List.getElem?_eq_none (by omega), List.getElem?_eq_none (by rw [addL_length, HLL.out]; omega)]
        exact Lib.hid q4
      go_wp2
      refine bodyPost_end (results_none rfl _ _ _) rfl ⟨rfl, ⟨HST.out.below hBr (by omega), b1, HF.out, by rw [addL_length]; exact HLL.out, hne, hlo, hle, hwid, fun a ha => ?_⟩, hGr⟩
      obtain ⟨j, hj, rfl⟩ := List.getElem_of_mem ha
      rw [addL_length] at hj
      have e := addL_at (l := l) (x := x) hj (by rw [← HLL.out]; exact hj)
      rw [List.getElem?_eq_getElem (by rw [addL_length]; exact hj)] at e
      rw [Option.some.inj e]
      have hW := HW.out _ (List.getElem_mem hj)
      unfold addQ
      split
      · exact hx
      · split
        · exact hW
        · split
          · exact hW
          · exact hW
end Go.Proofs.YtmdbpkomanhpoaaGreatDoor
