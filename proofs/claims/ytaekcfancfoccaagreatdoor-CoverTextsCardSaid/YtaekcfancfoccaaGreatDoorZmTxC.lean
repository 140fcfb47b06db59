/- Contract: a text cut at a byte (base.Cut). -/
import Derived.Test.YtaekcfancfoccaaGreatDoorZmZkCvM
import Derived.Test.YtaekcfancfoccaaGreatDoorZmTxA
namespace Go.Proofs.YtaekcfancfoccaaGreatDoor
open Go.RowKit Go.Lib

theorem infoStr : (Tryz.prog.info? 9).map (fun i => (i.zero, i.size, i.bytes)) = some (some (.string ByteArray.empty), 1, 16) := by kernel_rfl
def CutS (c : UInt8) (s : ByteArray) (O : List ByteArray) (f i : Nat) : Prop :=
  f ≤ i ∧ i ≤ s.size ∧ O ++ (cutL c (s.data.toList.drop f)).map strB = cutB c s ∧ ∀ j (h : j < s.size), f ≤ j → j < i → s[j] ≠ c
theorem CutS.start (c : UInt8) (s : ByteArray) : CutS c s [] 0 0 := ⟨Nat.le_refl _, Nat.zero_le _, rfl, fun j _ _ h => by omega⟩
theorem size_list (s : ByteArray) : s.data.toList.length = s.size := by rw [Array.length_toList]; rfl
theorem CutS.hit {c : UInt8} {s : ByteArray} {O : List ByteArray} {f i : Nat} (h : CutS c s O f i) (hi : i < s.size) (hc : s[i] = c) : CutS c s (O ++ [s.extract f i]) (i + 1) (i + 1) := by
  obtain ⟨h1, h2, h3, h4⟩ := h
  refine ⟨Nat.le_refl _, hi, ?_, fun j _ _ _ => by omega⟩
  rw [cutL_step c _ f i (by rw [size_list]; exact hi) h1 (fun j hj hf hji => h4 j (by rw [size_list] at hj; exact hj) hf hji) hc] at h3
  rw [← h3, List.map_cons, ← ext_piece, List.append_assoc]
  rfl
theorem CutS.miss {c : UInt8} {s : ByteArray} {O : List ByteArray} {f i : Nat} (h : CutS c s O f i) (hi : i < s.size) (hc : s[i] ≠ c) : CutS c s O f (i + 1) := by
  obtain ⟨h1, h2, h3, h4⟩ := h
  refine ⟨by omega, hi, h3, fun j hj hf hji => ?_⟩
  by_cases e : j = i
  · subst e; exact hc
  · exact h4 j hj hf (by omega)
theorem CutS.done {c : UInt8} {s : ByteArray} {O : List ByteArray} {f : Nat} (h : CutS c s O f s.size) : O ++ [s.extract f s.size] = cutB c s := by
  obtain ⟨h1, h2, h3, h4⟩ := h
  rw [cutL_last c _ f (fun j hj hf => h4 j (by rw [size_list] at hj; exact hj) hf (by rw [size_list] at hj; exact hj))] at h3
  rw [← h3, ext_piece, List.map_cons, List.take_of_length_le (by rw [List.length_drop, size_list]; omega)]
  rfl
theorem CutS.len {c : UInt8} {s : ByteArray} {O : List ByteArray} {f i : Nat} (h : CutS c s O f i) : O.length ≤ s.size := by
  obtain ⟨h1, h2, h3, h4⟩ := h
  have := congrArg List.length h3
  rw [List.length_append, List.length_map, cutB_length, countB_one] at this
  have hc := List.count_le_length (a := c) (l := s.data.toList)
  rw [size_list] at hc
  have hne := cutL_ne c (s.data.toList.drop f)
  have : 1 ≤ (cutL c (s.data.toList.drop f)).length := Nat.pos_of_ne_zero fun e => hne (List.eq_nil_of_length_eq_zero e)
  omega

set_option maxRecDepth 100000 in
set_option maxHeartbeats 1000000 in
theorem bCut_any (s : ByteArray) (c : UInt8) (hs : s.size ≤ 1000000) (w : World) :
    Calls Tryz.prog 44 #[.string s, .int .u8 (c.toNat : Int)] w fun e w' => ∃ v, e = .returned v ∧ w'.ownsRow w.heap.size 9 1 v (cutB c s).length (strsC (cutB c s)) ∧ Below w.heap.size w w' := by
  go_enter Tryz.func44, Tryz.ntmps44
  go_wp2
  obtain ⟨i0, hi0, hz0, hz1, hz2⟩ := info_parts infoStr
  go_loopw [5, 6, 7] (fun s5 s6 s7 wr => ∃ (O : List ByteArray) (v : Value) (f i : Nat), s5 = v ∧ s6 = .int .i64 f ∧ s7 = .int .i64 i ∧ Hid (CutS c s O f i) ∧ wr.ownsRow w.heap.size 9 1 v O.length (strsC O) ∧ Below w.heap.size w wr) (fun _ _ i _ => s.size - (intOf i).toNat)
  case atStart => exact ⟨[], _, 0, 0, rfl, rfl, rfl, Lib.hid (CutS.start c s), World.ownsRow_nil _ _ _ _, Below.refl _ _⟩
  case round =>
    obtain ⟨O, v, f, i, rfl, rfl, rfl, HC, hown, hBB⟩ := hrel
    have hfi : f ≤ i := HC.out.1
    have hil : i ≤ s.size := HC.out.2.1
    have hO : O.length ≤ s.size := HC.out.len
    have hzB := Below.size hBB
    by_cases hlt : i < s.size
    · by_cases hc : s[i] = c
      · have HN := Lib.hid (HC.out.hit hlt hc)
        have HE : Hid (strsC O ++ [.string (s.extract f i)] = strsC (O ++ [s.extract f i])) := Lib.hid (by simp [strsC])
        have hOo := hown.alloc (.cells #[.string (s.extract f i)] 9)
        have hBo := hBB.alloc (Below.size hBB) (.cells #[.string (s.extract f i)] 9)
        rw [← hc] at *
        clear hc
        go_wp2_with (at_builtin; refine wpList_append_own _ rfl _ _ 89 rfl w.heap.size 9 i0 _ 1 16 Tryz.underlying89 hi0 hz0 hz1 hz2 rfl (by decide) _ _ _ rfl hOo ⟨wr.heap.size, 0, none⟩ 1 1 [.string (s.extract f i)] rfl rfl (cell_one_new _ _ _) (by simp [Value.oneCell']) (by unfold maxLen; omega) (by omega) (by first | omega | (simp; done) | (simp; omega)) ?_; intro v2 W5 hown' hgrow _)
        have hown2 : W5.ownsRow w.heap.size 9 1 v2 (O ++ [s.extract f i]).length (strsC (O ++ [s.extract f i])) := by
          rw [← HE.out, List.length_append]; exact hown'
        exact ⟨⟨O ++ [s.extract f i], v2, i + 1, i + 1, rfl, by go_num, by go_num, HN, hown2, below_own hBo (Nat.le_refl _) hOo hgrow⟩, by simp [intOf]; omega⟩
      · have HN := Lib.hid (HC.out.miss hlt hc)
        have hc' : ((s[i].toNat : Int) == (c.toNat : Int)) = false := by
          rw [beq_eq_false_iff_ne]
          intro e
          exact hc (UInt8.toNat_inj.1 (by omega))
        clear hc
        generalize hu : s[i].toNat = u at hc'
        go_wp2
        exact ⟨⟨O, _, f, i + 1, rfl, rfl, by go_num, HN, hown, hBB⟩, by simp [intOf]; omega⟩
    · obtain rfl : i = s.size := by omega
      have HE := Lib.hid HC.out.done
      have hOo := hown.alloc (.cells #[.string (s.extract f s.size)] 9)
      have hBo := hBB.alloc (Below.size hBB) (.cells #[.string (s.extract f s.size)] 9)
      go_wp2_with (at_builtin; refine wpList_append_own _ rfl _ _ 89 rfl w.heap.size 9 i0 _ 1 16 Tryz.underlying89 hi0 hz0 hz1 hz2 rfl (by decide) _ _ _ rfl hOo ⟨wr.heap.size, 0, none⟩ 1 1 [.string (s.extract f s.size)] rfl rfl (cell_one_new _ _ _) (by simp [Value.oneCell']) (by unfold maxLen; omega) (by omega) (by first | omega | (simp; done) | (simp; omega)) ?_; intro v2 W5 hown' hgrow _)
      have hown2 : W5.ownsRow w.heap.size 9 1 v2 (cutB c s).length (strsC (cutB c s)) := by
        rw [← HE.out, List.length_append, strsC_succ]; exact hown'
      have hb := below_own hBo (Nat.le_refl _) hOo hgrow
      go_ret
      exact ⟨_, rfl, hown2, hb⟩
end Go.Proofs.YtaekcfancfoccaaGreatDoor
