/- Contracts of the parts of a frame: the check of bytes, numbers as bytes, samples that are 0. -/
import Derived.Test.YtfgeipapmdhneaaDoorZsCvA
import Derived.Test.YtfgeipapmdhneaaDoorZsCvW
import Derived.Test.YtfgeipapmdhneaaDoorZsRgW
import Derived.Test.YtfgeipapmdhneaaDoorTsA
namespace Go.Proofs.YtfgeipapmdhneaaDoor
open Go.RowKit Go.Lib

theorem trWithin_any (n lo hi : Int) (w : World) : Calls Tryd.prog 28 #[.int .i64 n, .int .i64 lo, .int .i64 hi] w fun e w' => e = .returned (.bool (decide (lo ≤ n) && decide (n ≤ hi))) ∧ w' = w := by
  go_enter Tryd.func28, Tryd.ntmps28
  go_wp2
  all_goals
    go_ret
    refine ⟨?_, rfl⟩
    first | (simp [*]; done) | (simp [*]; omega)
theorem trSmall_any (n m : Int) (hm : 0 ≤ m ∧ m ≤ 1000000000) (w : World) : Calls Tryd.prog 17 #[.int .i64 n, .int .i64 m] w fun e w' => e = .returned (.bool (decide (-m ≤ n) && decide (n ≤ m))) ∧ w' = w := by
  go_enter Tryd.func17, Tryd.ntmps17
  go_wp2_with fail
  refine (trWithin_any n (-m) m w).mono ?_
  rintro e w1 ⟨rfl, rfl⟩
  go_wp2
  go_ret
  exact ⟨rfl, rfl⟩
theorem frameSize_any (w : World) : Calls Tryd.prog 22 #[.int .i64 1] w fun e w' => e = .returned (.int .i64 138) ∧ w' = w := by
  go_enter Tryd.func22, Tryd.ntmps22
  go_wp2
  go_ret
  exact ⟨rfl, rfl⟩
set_option maxRecDepth 100000 in
theorem check_any (s : ByteArray) (hs : s.size ≤ 1000000) (w : World) : Calls Tryd.prog 20 #[.string s] w fun e w' => e = .returned (.int .i64 (chk 1 s.data.toList)) ∧ w' = w := by
  have hsl : s.data.toList.length = s.size := by rw [Array.length_toList]; rfl
  go_enter Tryd.func20, Tryd.ntmps20
  go_wp2
  go_loopw [3, 7] (fun s3 s7 wr => ∃ k : Nat, s3 = .int .i64 (chk 1 (s.data.toList.take k)) ∧ s7 = .int .i64 k ∧ k ≤ s.size ∧ wr = w) (fun _ s7 _ => s.size - (RowKit.intOf s7).toNat)
  case atStart => exact ⟨0, rfl, rfl, Nat.zero_le _, rfl⟩
  case round =>
    obtain ⟨k, rfl, rfl, hk, rfl⟩ := hrel
    by_cases hlt : k < s.size
    · have hlI : (k : Int) < (s.size : Int) := by omega
      have hb := chk_bd (s.data.toList.take k) 1 (by omega) (by omega)
      have HN : Hid (chk 1 (s.data.toList.take (k + 1)) = (257 * chk 1 (s.data.toList.take k) + ((s.data.toList[k]'(by omega)).toNat : Int) + 1) % 65521) := Lib.hid (by
        rw [List.take_succ_eq_append_getElem (by omega), chk_snoc])
      have hb2 : ((s.data.toList[k]'(by omega)).toNat : Int) < 256 := by have := (s.data.toList[k]'(by omega)).toNat_lt; omega
      have HG : Hid (s[k] = s.data.toList[k]'(by omega)) := Lib.hid rfl
      have HH : Hid (0 ≤ chk 1 (s.data.toList.take k) ∧ chk 1 (s.data.toList.take k) < 65521 ∧ (s[k].toNat : Int) < 256 ∧ 0 ≤ (s[k].toNat : Int)) := Lib.hid ⟨hb.1, hb.2, by rw [HG.out]; exact hb2, by omega⟩
      rw [← HG.out] at HN
      clear hb hb2
      go_wp2
      refine ⟨⟨k + 1, ?_, by go_num, by omega, trivial⟩, by (first | (simp [RowKit.intOf]; done) | (simp [RowKit.intOf]; omega))⟩
      obtain ⟨h1, h2, h3, h4⟩ := HH.out
      rw [HN.out]
      generalize chk 1 (s.data.toList.take k) = c at *
      generalize (s[k].toNat : Int) = b at *
      have e0 : wrap64 (257 * c) = 257 * c := by unfold wrap64; omega
      have e1 : wrap64 b = b := by unfold wrap64; omega
      have e2 : wrap64 (257 * c + b) = 257 * c + b := by unfold wrap64; omega
      have e3 : wrap64 (257 * c + b + 1) = 257 * c + b + 1 := by unfold wrap64; omega
      rw [e0, e1, e2, e3, Int.tmod_eq_emod_of_nonneg (by omega)]
    · obtain rfl : k = s.size := by omega
      have HE : Hid (s.data.toList.take s.size = s.data.toList) := Lib.hid (List.take_of_length_le (by omega))
      rw [HE.out]
      go_wp2
      go_ret
      exact ⟨rfl, rfl⟩
theorem blk3_ {w : World} {g t : Nat} {v0 v1 v2 : Value} (h : Blk w g t #[v0, v1, v2]) : w.cell? ⟨g, 0, none⟩ = some v0 ∧ w.cell? ⟨g, 1, none⟩ = some v1 ∧ w.cell? ⟨g, 2, none⟩ = some v2 ∧ ∀ i, w.frozen? ⟨g, i, none⟩ = false := ⟨h.cell 0, h.cell 1, h.cell 2, h.frozen⟩
/-- Bytes as cells. -/
def u8C (l : List UInt8) : List Value := l.map fun b => Value.int .u8 b.toNat
theorem u8C_length (l : List UInt8) : (u8C l).length = l.length := by simp [u8C]
theorem infoU8 : (Tryd.prog.info? 5).map (fun i => (i.zero, i.size, i.bytes)) = some (some (.int .u8 0), 1, 1) := by kernel_rfl
theorem cell_one_ (w : World) (x : Value) (t : TypeId) : ∀ j u, [x][j]? = some u → (w.alloc (.cells #[x] t)).cell? ((⟨w.heap.size, 0, none⟩ : Addr).add j) = some u := by
  intro j u hj
  have hb := Blk.new w t #[x]
  match j, hj with
  | 0, hj => simp at hj; subst hj; exact hb.cell 0
  | k + 1, hj => simp at hj
theorem own_gr {w w' : World} {base e size n : Nat} {v : Value} {xs : List Value} (h : w.ownsRow base e size v n xs) (hg : Below w.heap.size w w') : w'.ownsRow base e size v n xs := by
  refine ⟨h.1, ?_⟩
  rcases h.2 with h0 | ⟨g, cap, cur, hv, hb, hh, r⟩
  · exact .inl h0
  · exact .inr ⟨g, cap, cur, hv, hb, (hg.block g (Array.getElem?_eq_some_iff.1 hh).1).trans hh, r⟩
theorem own_base {w w' : World} {base e size n : Nat} {v : Value} {xs : List Value} {a : World} (h : w.ownsRow base e size v n xs) (hb : Below base a w) (ha : base ≤ a.heap.size) (hg : w.grownBy w' v.ownBlock) : Below base a w' :=
  hb.grown hg (Nat.le_trans ha hb.size) (fun r e => (h.lt r e).1)
set_option maxRecDepth 100000 in
set_option maxHeartbeats 2000000 in
theorem appended_any (xs : List Value) (v : Value) (B k : Nat) (n : Int) (w : World) (hv : w.ownsRow B 5 1 v xs.length xs) (hB : B ≤ w.heap.size) (hk : k ≤ 4) (_hn : -9223372036854775808 ≤ n ∧ n ≤ 9223372036854775807) (hx : xs.length ≤ 100000) :
    Calls Tryd.prog 19 #[v, .int .i64 n, .int .i64 k] w fun e w' => ∃ v', e = .returned v' ∧ w'.ownsRow B 5 1 v' (xs.length + k) (xs ++ u8C (wb n k)) ∧ Below B w w' := by
  obtain ⟨i0, hi, hz0, hz1, hz2⟩ := info_parts (infoU8)
  go_enter Tryd.func19, Tryd.ntmps19
  go_wp2
  go_loopw [0, 7] (fun s0 s7 wr => ∃ (m : Nat) (E : List UInt8), s7 = .int .i64 ((m : Int) - 1) ∧ m ≤ k ∧ Hid (E ++ wb n m = wb n k) ∧ wr.ownsRow B 5 1 s0 (xs.length + E.length) (xs ++ u8C E) ∧ Below B w wr) (fun _ s7 _ => (RowKit.intOf s7 + 1).toNat)
  case atStart => exact ⟨k, [], rfl, Nat.le_refl _, Lib.hid rfl, by simpa [u8C] using hv, Below.refl _ _⟩
  case round =>
    clear hv
    obtain ⟨m, E, rfl, hm, hE, hown, hBB⟩ := hrel
    have hzB := Below.size hBB
    by_cases hlt : 0 < m
    · obtain ⟨i, rfl⟩ : ∃ i, m = i + 1 := ⟨m - 1, by omega⟩
      have e1 : (((i + 1 : Nat) : Int) - 1) = (i : Int) := by omega
      rw [e1]
      have hal : Below wr.heap.size wr (wr.alloc (.cells #[.int .u8 (n / 2 ^ (8 * i) % 256)] 5)) := (Below.refl _ _).alloc (Nat.le_refl _) _
      have hOo := own_gr hown hal
      have hBo := hBB.trans (hal.mono (Nat.le_trans hB hzB))
      have HE2 : Hid (E ++ [byteI (n / 2 ^ (8 * i))] ++ wb n i = wb n k) := Lib.hid (by rw [← hE.out]; simp [wb])
      have hE1 : E.length + (i + 1) = k := by have := congrArg List.length hE.out; simp only [List.length_append, wb_length] at this; omega
      clear hal hown hBB
      go_wp2_with (at_builtin; refine wpList_append_own _ rfl _ _ 67 rfl B 5 i0 _ 1 1 Tryd.underlying67 hi hz0 hz1 hz2 rfl (by decide) _ _ _ rfl hOo ⟨wr.heap.size, 0, none⟩ 1 1 [.int .u8 (n / 2 ^ (8 * i) % 256)] rfl rfl (cell_one_ _ _ _) (by simp [Value.oneCell']) (by unfold maxLen; omega) (by omega) (by first | omega | (simp; done) | (simp; omega)) ?_; intro v2 W5 hown' hgrow _)
      have hown3 : W5.ownsRow B 5 1 v2 (xs.length + (E ++ [byteI (n / 2 ^ (8 * i))]).length) (xs ++ u8C (E ++ [byteI (n / 2 ^ (8 * i))])) := by
        have e2 : u8C (E ++ [byteI (n / 2 ^ (8 * i))]) = u8C E ++ [.int .u8 (n / 2 ^ (8 * i) % 256)] := by simp [u8C, byteI_nat]
        rw [e2, ← List.append_assoc, List.length_append, ← Nat.add_assoc]
        exact hown'
      exact ⟨⟨i, _, rfl, by omega, HE2, hown3, own_base hOo hBo hB hgrow⟩, by (first | (simp [RowKit.intOf]; done) | (simp [RowKit.intOf]; omega))⟩
    · obtain rfl : m = 0 := by omega
      have hk' : E.length = k := by have := congrArg List.length hE.out; simp only [List.length_append, wb_length] at this; omega
      have hEE : E = wb n k := by have := hE.out; simpa [wb] using this
      go_wp2
      go_ret
      rw [hk', hEE] at hown
      exact ⟨_, rfl, hown, hBB⟩
end Go.Proofs.YtfgeipapmdhneaaDoor
