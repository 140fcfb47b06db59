/- What the library's texts need of a world, and their contracts: strconv.Itoa, strconv.Atoi, strings.Split, Contains, TrimPrefix, Join. -/
import Derived.Lib.SmallJoins
import Derived.Lib.AtoiErrMem
import Derived.Lib.AppendIntMem
import Derived.Test.YtaekcfancfoccaaGreatDoorZmTxC
import Derived.Test.YtaekcfancfoccaaGreatDoorZmShTp
namespace Go.Proofs.YtaekcfancfoccaaGreatDoor
open Go.RowKit Go.Lib

structure LibW (w : World) : Prop where
  pow : TabIs Tryz.prog w "internal/strconv.uint64pow10" .u64 pow10Tab
  syn : ∃ t p, w.cell? ⟨4, 0, none⟩ = some (.iface t p)
  rng : ∃ t p, w.cell? ⟨5, 0, none⟩ = some (.iface t p)
  max : ∃ m, w.cell? ⟨2, 0, none⟩ = some (.int .i64 m)
theorem cell_stays {w w' : World} {B g : Nat} {v : Value} (h : w.cell? ⟨g, 0, none⟩ = some v) (hb : Below B w w') (hB : w.heap.size ≤ B) : w'.cell? ⟨g, 0, none⟩ = some v := by
  have := World.block_lt_of_cell? _ _ h
  rw [hb.cell (show (⟨g, 0, none⟩ : Addr).block < B from by simp only; simp only at this; omega)]
  exact h
theorem LibW.below {w w' : World} {B : Nat} (h : LibW w) (hb : Below B w w') (hB : w.heap.size ≤ B) : LibW w' := by
  obtain ⟨t, p, hs⟩ := h.syn
  obtain ⟨t2, p2, hr⟩ := h.rng
  obtain ⟨m, hm⟩ := h.max
  exact ⟨Go.Joins.tab_stays (g := 3) (by kernel_rfl) h.pow hb hB, ⟨t, p, cell_stays hs hb hB⟩, ⟨t2, p2, cell_stays hr hb hB⟩, ⟨m, cell_stays hm hb hB⟩⟩

theorem itoa_any (n : Int) (h0 : -9223372036854775808 ≤ n) (h1 : n ≤ 9223372036854775807) (w : World) (hL : LibW w) : Calls Tryz.prog 33 #[.int .i64 n] w fun e w' => e = .returned (.string (strB (itoa n))) ∧ Below w.heap.size w w' :=
  (Tryz.strconv_Itoa n h0 h1 w hL.pow).mono fun _ _ ⟨he, k, os, hw⟩ => ⟨he, hw ▸ Go.Lib.below_grow _ w (Nat.le_refl _) k os⟩
theorem atoi_ok (s : ByteArray) (hs : s.size ≤ 1000000) (v : Int) (h : atoiAll s.data.toList = .ok v) (w : World) : Calls Tryz.prog 86 #[.string s] w fun e w' => e = .returned (.tuple #[.int .i64 v, .nilIface]) ∧ Below w.heap.size w w' :=
  (Tryz.strconv_Atoi_ok s (by omega) v h w).mono fun _ _ ⟨he, hw⟩ => ⟨he, by
    rcases hw with rfl | ⟨t, rfl⟩
    · exact Below.refl _ _
    · exact bytesWorld_below _ _ _⟩
theorem atoi_bad (s : ByteArray) (hs : s.size ≤ 1000000) (h : ∀ v, atoiAll s.data.toList ≠ .ok v) (w : World) (hL : LibW w) : Calls Tryz.prog 86 #[.string s] w fun e w' => ∃ n N, e = .returned (.tuple #[.int .i64 n, .iface 221 (.pointer (some ⟨N, 0, none⟩))]) ∧ Below w.heap.size w w' := by
  obtain ⟨t, p, hsy⟩ := hL.syn
  obtain ⟨t2, p2, hr⟩ := hL.rng
  cases ha : atoiAll s.data.toList with
  | ok v => exact absurd ha (h v)
  | «syntax» => exact (Tryz.strconv_Atoi_syntax s (by omega) ha _ w hsy (Or.inr ⟨_, _, rfl⟩)).mono fun _ _ ⟨N, he, _, _, hb⟩ => ⟨_, N, he, hb⟩
  | range => exact (Tryz.strconv_Atoi_range s (by omega) ha _ w hr (Or.inr ⟨_, _, rfl⟩)).mono fun _ _ ⟨N, he, _, _, hb⟩ => ⟨_, N, he, hb⟩
theorem trim_any (s : ByteArray) (w : World) : Calls Tryz.prog 87 #[.string s, .string ⟨#[45]⟩] w fun e w' => e = .returned (.string (strB (bodyL s.data.toList))) ∧ w = w' :=
  (Tryz.strings_TrimPrefix s ⟨#[45]⟩ w).mono fun e w' ⟨he, hw⟩ => ⟨by rw [he, ← trim_body]; rfl, hw.symm⟩
theorem join_own (xs : List ByteArray) (c : UInt8) (v : Value) (B : Nat) (w : World) (h : w.ownsRow B 9 1 v xs.length (strsC xs)) (hx : xs ≠ []) (hlen : (join (xs.map (·.data.toList)) [c]).length ≤ 1000000000) (hn : xs.length ≤ 1000000) :
    Calls Tryz.prog 32 #[v, .string ⟨#[c]⟩] w fun e w' => e = .returned (.string (strB (join (xs.map (·.data.toList)) [c]))) ∧ Below w.heap.size w w' := by
  obtain ⟨x0, xs', rfl⟩ : ∃ x0 xs', xs = x0 :: xs' := by
    cases xs with
    | nil => exact absurd rfl hx
    | cons a b => exact ⟨a, b, rfl⟩
  obtain ⟨hl, h | ⟨g, cap, cur, rfl, hb, hh, hcap, hmax, hsz, htk⟩⟩ := h
  · exact absurd h.2 (by simp)
  · have hg : g < w.heap.size := by
      rcases Nat.lt_or_ge g w.heap.size with h' | h'
      · exact h'
      · rw [Array.getElem?_eq_none h'] at hh; cases hh
    refine (Tryz.strings_Join g 0 cap (x0 :: xs') ⟨#[c]⟩ w (fun j x hj => ?_) hg (by omega) hcap (by show (join _ [c]).length ≤ _; omega)).mono fun e w' ⟨he, hw⟩ => ⟨he, hw⟩
    have hjl : j < (x0 :: xs').length := (List.getElem?_eq_some_iff.1 hj).1
    have e1 : w.cell? ⟨g, 0 + j, none⟩ = cur[j]? := by rw [Nat.zero_add]; simp [World.cell?, hh]
    rw [e1]
    have e2 := congrArg (·[j]?) htk
    simp only [List.getElem?_take, Array.getElem?_toList] at e2
    rw [if_pos (by omega)] at e2
    rw [e2, strsC, List.getElem?_map, hj]
    rfl
end Go.Proofs.YtaekcfancfoccaaGreatDoor
