/- The kinds of entries (office.kindOf). Is a position within a range that was scanned (inspection.mark's function). A mark added: the law (inspection.mark). -/
import Derived.Laws.EntriesVeiled
import Derived.Test.YtmdbpkomanhpoaaGreatDoorZqOeG
namespace Go.Proofs.YtmdbpkomanhpoaaGreatDoor
open Go.RowKit Go.Lib

/-- The number of a kind by its word. -/
def kindI (s : ByteArray) : Option Nat := if (s.toList == [116, 117, 110, 101]) = true then some 0 else if (s.toList == [115, 99, 97, 110]) = true then some 1 else if (s.toList == [100, 111, 117, 98, 116]) = true then some 2 else if (s.toList == [109, 97, 114, 107]) = true then some 3 else if (s.toList == [100, 101, 99, 105, 100, 101]) = true then some 4 else if (s.toList == [109, 101, 110, 100]) = true then some 5 else if (s.toList == [99, 108, 111, 115, 101]) = true then some 6 else none
/-- What a kind holds. -/
def kindC (k : Nat) : Array Value := match k with
  | 0 => #[.int .i64 1, .int .i64 3, .func (.func 64) #[] #[]]
  | 1 => #[.int .i64 1, .int .i64 2, .func (.func 65) #[] #[]]
  | 2 => #[.int .i64 1, .int .i64 1, .func (.func 66) #[] #[]]
  | 3 => #[.int .i64 2, .int .i64 8, .func (.func 67) #[] #[]]
  | 4 => #[.int .i64 2, .int .i64 1, .func (.func 68) #[] #[]]
  | 5 => #[.int .i64 3, .int .i64 1, .func (.func 69) #[] #[]]
  | _ => #[.int .i64 3, .int .i64 0, .func (.func 70) #[] #[]]
def KindR (s : ByteArray) (e : Ending) : Prop := match kindI s with
  | none => e = .returned (.tuple #[.agg #[.int .i64 0, .int .i64 0, .nilFunc], .bool false])
  | some k => e = .returned (.tuple #[.agg (kindC k), .bool true])
set_option maxRecDepth 100000 in
set_option maxHeartbeats 4000000 in
theorem kindOf_any (s : ByteArray) (w : World) : Calls Tryz.prog 48 #[.string s] w fun e w' => KindR s e ∧ Below w.heap.size w w' := by
  have HK : Hid (kindI s = if (s.toList == [116, 117, 110, 101]) = true then some 0 else if (s.toList == [115, 99, 97, 110]) = true then some 1 else if (s.toList == [100, 111, 117, 98, 116]) = true then some 2 else if (s.toList == [109, 97, 114, 107]) = true then some 3 else if (s.toList == [100, 101, 99, 105, 100, 101]) = true then some 4 else if (s.toList == [109, 101, 110, 100]) = true then some 5 else if (s.toList == [99, 108, 111, 115, 101]) = true then some 6 else none) := Lib.hid rfl
  unfold KindR
  generalize kindI s = ki at *
  cases q0 : s.toList == [116, 117, 110, 101]
  rotate_left
  · replace HK := Lib.hid (HK.out.trans (if_pos q0))
    rw [HK.out]
    go_enter Tryz.func48, Tryz.ntmps48
    go_wp2
    refine bodyPost_ret (v := .tuple #[.agg (kindC 0), .bool true]) ?_ rfl ⟨rfl, (by repeat (first | (with_reducible exact Below.refl _ _) | (with_reducible assumption) | ((with_reducible refine Below.setCell ?_ ?_ _); rotate_left; · (first | exact Nat.le_refl _ | (simp; done) | (simp; omega) | omega)) | ((with_reducible refine Below.alloc ?_ ?_ _); rotate_left; · (first | exact Nat.le_refl _ | (simp; done) | (simp; omega) | omega)) | (with_reducible apply Below.drew) | (with_reducible apply below_drewN') | (refine Below.trans ?_ (Below.mono (by assumption) (by first | exact Nat.le_refl _ | (simp; done) | (simp; omega) | omega))) | exact Below.refl _ _ | assumption))⟩
    simp [results, Tryz.results48, go_sem, kindC]
  replace HK := Lib.hid (HK.out.trans (if_neg (by simp only [q0]; decide)))
  cases q1 : s.toList == [115, 99, 97, 110]
  rotate_left
  · replace HK := Lib.hid (HK.out.trans (if_pos q1))
    rw [HK.out]
    go_enter Tryz.func48, Tryz.ntmps48
    go_wp2
    refine bodyPost_ret (v := .tuple #[.agg (kindC 1), .bool true]) ?_ rfl ⟨rfl, (by repeat (first | (with_reducible exact Below.refl _ _) | (with_reducible assumption) | ((with_reducible refine Below.setCell ?_ ?_ _); rotate_left; · (first | exact Nat.le_refl _ | (simp; done) | (simp; omega) | omega)) | ((with_reducible refine Below.alloc ?_ ?_ _); rotate_left; · (first | exact Nat.le_refl _ | (simp; done) | (simp; omega) | omega)) | (with_reducible apply Below.drew) | (with_reducible apply below_drewN') | (refine Below.trans ?_ (Below.mono (by assumption) (by first | exact Nat.le_refl _ | (simp; done) | (simp; omega) | omega))) | exact Below.refl _ _ | assumption))⟩
    simp [results, Tryz.results48, go_sem, kindC]
  replace HK := Lib.hid (HK.out.trans (if_neg (by simp only [q1]; decide)))
  cases q2 : s.toList == [100, 111, 117, 98, 116]
  rotate_left
  · replace HK := Lib.hid (HK.out.trans (if_pos q2))
    rw [HK.out]
    go_enter Tryz.func48, Tryz.ntmps48
    go_wp2
    refine bodyPost_ret (v := .tuple #[.agg (kindC 2), .bool true]) ?_ rfl ⟨rfl, (by repeat (first | (with_reducible exact Below.refl _ _) | (with_reducible assumption) | ((with_reducible refine Below.setCell ?_ ?_ _); rotate_left; · (first | exact Nat.le_refl _ | (simp; done) | (simp; omega) | omega)) | ((with_reducible refine Below.alloc ?_ ?_ _); rotate_left; · (first | exact Nat.le_refl _ | (simp; done) | (simp; omega) | omega)) | (with_reducible apply Below.drew) | (with_reducible apply below_drewN') | (refine Below.trans ?_ (Below.mono (by assumption) (by first | exact Nat.le_refl _ | (simp; done) | (simp; omega) | omega))) | exact Below.refl _ _ | assumption))⟩
    simp [results, Tryz.results48, go_sem, kindC]
  replace HK := Lib.hid (HK.out.trans (if_neg (by simp only [q2]; decide)))
  cases q3 : s.toList == [109, 97, 114, 107]
  rotate_left
  · replace HK := Lib.hid (HK.out.trans (if_pos q3))
    rw [HK.out]
    go_enter Tryz.func48, Tryz.ntmps48
    go_wp2
    refine bodyPost_ret (v := .tuple #[.agg (kindC 3), .bool true]) ?_ rfl ⟨rfl, (by repeat (first | (with_reducible exact Below.refl _ _) | (with_reducible assumption) | ((with_reducible refine Below.setCell ?_ ?_ _); rotate_left; · (first | exact Nat.le_refl _ | (simp; done) | (simp; omega) | omega)) | ((with_reducible refine Below.alloc ?_ ?_ _); rotate_left; · (first | exact Nat.le_refl _ | (simp; done) | (simp; omega) | omega)) | (with_reducible apply Below.drew) | (with_reducible apply below_drewN') | (refine Below.trans ?_ (Below.mono (by assumption) (by first | exact Nat.le_refl _ | (simp; done) | (simp; omega) | omega))) | exact Below.refl _ _ | assumption))⟩
    simp [results, Tryz.results48, go_sem, kindC]
  replace HK := Lib.hid (HK.out.trans (if_neg (by simp only [q3]; decide)))
  cases q4 : s.toList == [100, 101, 99, 105, 100, 101]
  rotate_left
  · replace HK := Lib.hid (HK.out.trans (if_pos q4))
    rw [HK.out]
    go_enter Tryz.func48, Tryz.ntmps48
    go_wp2
    refine bodyPost_ret (v := .tuple #[.agg (kindC 4), .bool true]) ?_ rfl ⟨rfl, (by repeat (first | (with_reducible exact Below.refl _ _) | (with_reducible assumption) | ((with_reducible refine Below.setCell ?_ ?_ _); rotate_left; · (first | exact Nat.le_refl _ | (simp; done) | (simp; omega) | omega)) | ((with_reducible refine Below.alloc ?_ ?_ _); rotate_left; · (first | exact Nat.le_refl _ | (simp; done) | (simp; omega) | omega)) | (with_reducible apply Below.drew) | (with_reducible apply below_drewN') | (refine Below.trans ?_ (Below.mono (by assumption) (by first | exact Nat.le_refl _ | (simp; done) | (simp; omega) | omega))) | exact Below.refl _ _ | assumption))⟩
    simp [results, Tryz.results48, go_sem, kindC]
  replace HK := Lib.hid (HK.out.trans (if_neg (by simp only [q4]; decide)))
  cases q5 : s.toList == [109, 101, 110, 100]
  rotate_left
  · replace HK := Lib.hid (HK.out.trans (if_pos q5))
    rw [HK.out]
    go_enter Tryz.func48, Tryz.ntmps48
    go_wp2
    refine bodyPost_ret (v := .tuple #[.agg (kindC 5), .bool true]) ?_ rfl ⟨rfl, (by repeat (first | (with_reducible exact Below.refl _ _) | (with_reducible assumption) | ((with_reducible refine Below.setCell ?_ ?_ _); rotate_left; · (first | exact Nat.le_refl _ | (simp; done) | (simp; omega) | omega)) | ((with_reducible refine Below.alloc ?_ ?_ _); rotate_left; · (first | exact Nat.le_refl _ | (simp; done) | (simp; omega) | omega)) | (with_reducible apply Below.drew) | (with_reducible apply below_drewN') | (refine Below.trans ?_ (Below.mono (by assumption) (by first | exact Nat.le_refl _ | (simp; done) | (simp; omega) | omega))) | exact Below.refl _ _ | assumption))⟩
    simp [results, Tryz.results48, go_sem, kindC]
  replace HK := Lib.hid (HK.out.trans (if_neg (by simp only [q5]; decide)))
  cases q6 : s.toList == [99, 108, 111, 115, 101]
  rotate_left
  · replace HK := Lib.hid (HK.out.trans (if_pos q6))
    rw [HK.out]
    go_enter Tryz.func48, Tryz.ntmps48
    go_wp2
    refine bodyPost_ret (v := .tuple #[.agg (kindC 6), .bool true]) ?_ rfl ⟨rfl, (by repeat (first | (with_reducible exact Below.refl _ _) | (with_reducible assumption) | ((with_reducible refine Below.setCell ?_ ?_ _); rotate_left; · (first | exact Nat.le_refl _ | (simp; done) | (simp; omega) | omega)) | ((with_reducible refine Below.alloc ?_ ?_ _); rotate_left; · (first | exact Nat.le_refl _ | (simp; done) | (simp; omega) | omega)) | (with_reducible apply Below.drew) | (with_reducible apply below_drewN') | (refine Below.trans ?_ (Below.mono (by assumption) (by first | exact Nat.le_refl _ | (simp; done) | (simp; omega) | omega))) | exact Below.refl _ _ | assumption))⟩
    simp [results, Tryz.results48, go_sem, kindC]
  replace HK := Lib.hid (HK.out.trans (if_neg (by simp only [q6]; decide)))
  rw [HK.out]
  go_enter Tryz.func48, Tryz.ntmps48
  go_wp2
  refine bodyPost_ret (v := .tuple #[.agg #[.int .i64 0, .int .i64 0, .nilFunc], .bool false]) ?_ rfl ⟨rfl, (by repeat (first | (with_reducible exact Below.refl _ _) | (with_reducible assumption) | ((with_reducible refine Below.setCell ?_ ?_ _); rotate_left; · (first | exact Nat.le_refl _ | (simp; done) | (simp; omega) | omega)) | ((with_reducible refine Below.alloc ?_ ?_ _); rotate_left; · (first | exact Nat.le_refl _ | (simp; done) | (simp; omega) | omega)) | (with_reducible apply Below.drew) | (with_reducible apply below_drewN') | (refine Below.trans ?_ (Below.mono (by assumption) (by first | exact Nat.le_refl _ | (simp; done) | (simp; omega) | omega))) | exact Below.refl _ _ | assumption))⟩
  simp [results, Tryz.results48, go_sem]
end Go.Proofs.YtmdbpkomanhpoaaGreatDoor

namespace Go.Proofs.YtmdbpkomanhpoaaGreatDoor
open Go.RowKit Go.Lib

def rngF (r : Int × Int) : List Value := [.int .i64 r.1, .int .i64 r.2]
theorem rngF_len (r : Int × Int) : (rngF r).length = 2 := rfl
theorem rngsC_rows (l : List (Int × Int)) : rngsC l = rowsC rngF l := rfl
set_option maxRecDepth 100000 in
set_option maxHeartbeats 1000000 in
theorem inRng_any (r : Int × Int) (b g o n c : Nat) (p : Int) (w : World) (hn : 0 < n) (hc : w.cell? ⟨b, 0, none⟩ = some (.slice (some ⟨g, o, none⟩) n c)) (hd : w.cell? ⟨g, o, none⟩ = some (.int .i64 p)) :
    Calls Tryz.prog 104 #[.agg #[.int .i64 r.1, .int .i64 r.2], .pointer (some ⟨b, 0, none⟩)] w fun e w' => e = .returned (.bool (wi p r.1 r.2)) ∧ Below w.heap.size w w' := by
  have hlt := World.block_lt_of_cell? _ _ hc
  have hlt2 := World.block_lt_of_cell? _ _ hd
  simp only at hlt hlt2
  have hB0 : Below w.heap.size w (w.alloc (.cells #[.int .i64 r.1, .int .i64 r.2] 68)) := (by repeat (first | (with_reducible exact Below.refl _ _) | (with_reducible assumption) | ((with_reducible refine Below.setCell ?_ ?_ _); rotate_left; · (first | exact Nat.le_refl _ | (simp; done) | (simp; omega) | omega)) | ((with_reducible refine Below.alloc ?_ ?_ _); rotate_left; · (first | exact Nat.le_refl _ | (simp; done) | (simp; omega) | omega)) | (with_reducible apply Below.drew) | (with_reducible apply below_drewN') | (refine Below.trans ?_ (Below.mono (by assumption) (by first | exact Nat.le_refl _ | (simp; done) | (simp; omega) | omega))) | exact Below.refl _ _ | assumption))
  have b0 := Blk.new w 68 #[.int .i64 r.1, .int .i64 r.2]
  have hc1 : (w.alloc (.cells #[.int .i64 r.1, .int .i64 r.2] 68)).cell? ⟨b, 0, none⟩ = some (.slice (some ⟨g, o, none⟩) n c) := (hB0.cell (p := ⟨b, 0, none⟩) hlt).trans hc
  have hd1 : (w.alloc (.cells #[.int .i64 r.1, .int .i64 r.2] 68)).cell? ⟨g, o, none⟩ = some (.int .i64 p) := (hB0.cell (p := ⟨g, o, none⟩) hlt2).trans hd
  have z0 := b0.cell 0
  have z1 := b0.cell 1
  have l0 := b0.lt
  have hl1 : b < (w.alloc (.cells #[.int .i64 r.1, .int .i64 r.2] 68)).heap.size := by simp; omega
  have hl2 : g < (w.alloc (.cells #[.int .i64 r.1, .int .i64 r.2] 68)).heap.size := by simp; omega
  clear hc hd b0
  have hni : (0 : Int) < (n : Int) := by omega
  generalize hW : w.alloc (.cells #[.int .i64 r.1, .int .i64 r.2] 68) = W at *
  go_enter Tryz.func104, Tryz.ntmps104
  go_upto_region 1 with fail
  clear hW
  refine wp_region_b 9 (by kernel_rfl) (by kernel_rfl) ?_; simp only [List.take, List.drop]
  repeat (first
    | (apply StepsD.run
       · go_simp
         done
       · intro w' hS K hK
         have hc := (bcell hS).1
         have hf := (bcell hS).2
         have hz := hS.size
         try simp at hz
         go_simp
         try go_bits
         first
           | exact hK _ hS
           | (go_at_call 79; (refine (oWithin_any _ _ _ _).mono ?_); rintro e wq ⟨rfl, rfl⟩; exact hK _ hS)
           | exact hK _ (by repeat (first | (with_reducible exact Below.refl _ _) | (with_reducible assumption) | ((with_reducible refine Below.setCell ?_ ?_ _); rotate_left; · (first | exact Nat.le_refl _ | (simp; done) | (simp; omega) | omega)) | ((with_reducible refine Below.alloc ?_ ?_ _); rotate_left; · (first | exact Nat.le_refl _ | (simp; done) | (simp; omega) | omega)) | (with_reducible apply Below.drew) | (with_reducible apply below_drewN') | (refine Below.trans ?_ (Below.mono (by assumption) (by first | exact Nat.le_refl _ | (simp; done) | (simp; omega) | omega))) | exact Below.refl _ _ | assumption))
       · simp [Act.put]
         done)
    | (apply StepsD.pass
       · first | (go_simp; done) | rfl
       · simp only [Act.put, List.setIfInBounds_toArray, List.set_cons_succ, List.set_cons_zero]
         rfl))
  refine StepsD.done ?_
  intro w9 hS9
  go_wp2_with fail
  go_ret
  exact ⟨rfl, hB0.trans (hS9.mono hB0.size)⟩

set_option maxHeartbeats 1000000 in
theorem idxRng (l : List (Int × Int)) (A : Option Addr) (c : Nat) (p : Int) (b g' o' n c' : Nat) (hn0 : 0 < n) (B : Nat) (w : World) (hn : l.length ≤ 9223372036854775807) (hR : Row w B 2 A l.length (rowsC rngF l)) (hB : B ≤ w.heap.size) (hc : w.cell? ⟨b, 0, none⟩ = some (.slice (some ⟨g', o', none⟩) n c')) (hd : w.cell? ⟨g', o', none⟩ = some (.int .i64 p)) :
    Calls Tryz.prog 139 #[.slice A l.length c, .func (.func 104) #[] #[.pointer (some ⟨b, 0, none⟩)]] w fun e w' => e = .returned (.int .i64 (idxV (fun r => wi p r.1 r.2) l)) ∧ Below w.heap.size w w' := by
  go_enter Tryz.func139, Tryz.ntmps139
  go_wp2
  go_loopw [8] (fun i wr => ∃ k : Nat, k ≤ l.length ∧ i = .int .i64 k ∧ Hid ((l.take k).any (fun r => wi p r.1 r.2) = false) ∧ Below w.heap.size w wr) (fun i _ => l.length - (intOf i).toNat)
  case atStart => exact ⟨0, Nat.zero_le _, rfl, rfl, Below.refl _ _⟩
  case round =>
    obtain ⟨k, hk, rfl, HI, hB'⟩ := hrel
    by_cases hlt : k < l.length
    · obtain ⟨g, o, hA, hg, c0, c1⟩ := (hR.below hB' hB).at2 rngF_len hlt rfl
      subst hA
      have hcb := (hB'.cell (p := ⟨b, 0, none⟩) (World.block_lt_of_cell? _ _ hc)).trans hc
      have hdb := (hB'.cell (p := ⟨g', o', none⟩) (World.block_lt_of_cell? _ _ hd)).trans hd
      cases hs : (fun r => wi p r.1 r.2) l[k]
      · have HS := Lib.hid hs; clear hs
        go_wp2_with fail
        refine (inRng_any l[k] b g' o' n c' p _ hn0 hcb hdb).mono ?_
        rw [HS.out]
        rintro e w1 ⟨rfl, hB1⟩; obtain ⟨hc1, hf1⟩ := bcell hB1; have hz1 := hB1.size; (try simp at hz1)
        go_wp2
        refine ⟨⟨k + 1, by omega, by go_num, by rw [any_take_snoc _ _ hlt, HI.out, HS.out]; rfl, Below.trans hB' (hB1.mono (Below.size hB'))⟩, by simp [intOf]; omega⟩
      · have HS := Lib.hid (idxV_hit hlt HI.out hs); have HS2 := Lib.hid hs; clear hs
        go_wp2_with fail
        refine (inRng_any l[k] b g' o' n c' p _ hn0 hcb hdb).mono ?_
        rw [HS2.out]
        rintro e w1 ⟨rfl, hB1⟩; obtain ⟨hc1, hf1⟩ := bcell hB1; have hz1 := hB1.size; (try simp at hz1)
        go_wp2
        go_ret
        exact ⟨by rw [HS.out]; rfl, Below.trans hB' (hB1.mono (Below.size hB'))⟩
    · obtain rfl : k = l.length := by omega
      have HS : Hid _ := Lib.hid (idxV_none (by rw [List.take_length] at HI; exact HI.out))
      go_wp2
      go_ret
      exact ⟨by rw [HS.out]; rfl, hB'⟩

set_option maxHeartbeats 400000 in
theorem hasRng (l : List (Int × Int)) (A : Option Addr) (c : Nat) (p : Int) (b g' o' n c' : Nat) (hn0 : 0 < n) (B : Nat) (w : World) (hn : l.length ≤ 9223372036854775807) (hR : Row w B 2 A l.length (rowsC rngF l)) (hB : B ≤ w.heap.size) (hc : w.cell? ⟨b, 0, none⟩ = some (.slice (some ⟨g', o', none⟩) n c')) (hd : w.cell? ⟨g', o', none⟩ = some (.int .i64 p)) :
    Calls Tryz.prog 103 #[.slice A l.length c, .func (.func 104) #[] #[.pointer (some ⟨b, 0, none⟩)]] w fun e w' => e = .returned (.bool (l.any (fun r => wi p r.1 r.2))) ∧ Below w.heap.size w w' := by
  have HX := Lib.hid (idxV_any (fun r => wi p r.1 r.2) l)
  go_enter Tryz.func103, Tryz.ntmps103
  go_wp2_with fail
  refine (idxRng l A c p b g' o' n c' hn0 B _ hn hR hB hc hd).mono ?_
  rintro e w1 ⟨rfl, hB1⟩
  go_wp2
  go_ret
  exact ⟨by rw [← HX.out]; rfl, hB1⟩
end Go.Proofs.YtmdbpkomanhpoaaGreatDoor

namespace Go.Proofs.YtmdbpkomanhpoaaGreatDoor
open Go.RowKit Go.Lib

/-- The error of a mark, and the state behind it; words: the name, the position, six quantities. -/
def markE (s : Se) (st : In) (nm : ByteArray) (ws qs : List ByteArray) : Int :=
  if numsO ws = false then 7 else if st.ms.length = 10 then 16 else if nameB nm = false then 4 else if (mkIx st nm).isSome = true then 5 else
  if pmE (joinW qs) ≠ 0 then pmE (joinW qs) else if mkOf (joinW qs) 1 ≠ s.thick then 23 else
  if ((scanR s.tk (readsL st.sc)).any fun r => wi (nW ws 0) r.1 r.2) = false then 14 else 0
def newMk (nm bb : ByteArray) (ws qs : List ByteArray) : Mk := ⟨nm, bb, nW ws 0, mkOf (joinW qs), 0, 0, 0, ⟨#[]⟩⟩
def markS (st : In) (nm bb : ByteArray) (ws qs : List ByteArray) : In := { st with ms := st.ms ++ [newMk nm bb ws qs] }
/-- Between the growing of the marks and their storing. -/
structure Ispm (s : Se) (m : Me) (B base bx : Nat) (a : Ia) (st : In) (v : Value) (n : Nat) (l : List Mk) (w : World) : Prop where
  set : SeOk s m B w
  blk : Blk w bx 74 (inC s m a st)
  ev : w.ownsRow base 166 3 (.slice a.eA st.ev.length a.ec) st.ev.length (rowsC evF st.ev)
  sc : w.ownsRow base 140 3 (.slice a.sA st.sc.length a.sc) st.sc.length (rowsC scF st.sc)
  ms : w.ownsRow base 95 13 v n (rowsC mkF l)
  hb : B ≤ w.heap.size
theorem Ispm.below {s : Se} {m : Me} {B base bx C n : Nat} {a : Ia} {st : In} {v : Value} {l : List Mk} {w w' : World} (h : Ispm s m B base bx a st v n l w) (hb : Below C w w') (hC : w.heap.size ≤ C) : Ispm s m B base bx a st v n l w' :=
  ⟨h.set.below hb (Nat.le_trans h.hb hC), h.blk.below hb (Nat.lt_of_lt_of_le h.blk.lt hC), own_below h.ev (hb.mono hC), own_below h.sc (hb.mono hC), own_below h.ms (hb.mono hC), Nat.le_trans h.hb hb.size⟩
theorem Isp.msGrow {s : Se} {m : Me} {B base bx n : Nat} {a : Ia} {st : In} {v : Value} {l : List Mk} {w w' : World} (h : Isp s m B base bx a st w) (hv : w'.ownsRow base 95 13 v n (rowsC mkF l)) (hg : w.grownBy w' (Value.slice a.mA st.ms.length a.mc).ownBlock) : Ispm s m B base bx a st v n l w' := by
  have hb : Below base w w' := (Below.refl base w).grown hg (Nat.le_trans h.lo (Nat.le_of_lt h.blk.lt)) (fun r e => (h.ms.lt r e).1)
  exact ⟨h.set.below hb h.le, h.blk.grown hg (own_ne_blk h.ms h.blk (by decide)).symm, own_while h.ev h.ms (by decide) hg, own_while h.sc h.ms (by decide) hg, hv, Nat.le_trans h.set.base hb.size⟩
theorem Ispm.store {s : Se} {m : Me} {B base bx n c : Nat} {A : Option Addr} {a : Ia} {st : In} {l : List Mk} {w : World} (h : Ispm s m B base bx a st (.slice A n c) n l w) (hn : l.length = n) (hle : B ≤ base) (hlo : base ≤ bx) (hl : InLim { st with ms := l }) : Isp s m B base bx { a with mA := A, mc := c } { st with ms := l } (w.setCell ⟨bx, 15, none⟩ (.slice A n c)) := by
  subst hn
  exact ⟨h.set.below ((Below.refl _ _).setCell (p := ⟨bx, 15, none⟩) (Nat.le_trans hle hlo) _) (Nat.le_refl _), Blk.set_ h.blk 15 _, own_other h.ev h.blk (by decide) _ _, own_other h.sc h.blk (by decide) _ _, own_other h.ms h.blk (by decide) _ _, hle, hlo, hl⟩
theorem infoMk : (Tryz.prog.info? 95).map (fun i => (i.zero, i.size, i.bytes)) = some (some (.agg #[.string ⟨#[]⟩, .string ⟨#[]⟩, .int .i64 0, .int .i64 0, .int .i64 0, .int .i64 0, .int .i64 0, .int .i64 0, .int .i64 0, .int .i64 0, .int .i64 0, .int .i64 0, .string ⟨#[]⟩]), 13, 128) := by kernel_rfl
end Go.Proofs.YtmdbpkomanhpoaaGreatDoor
