/- Plain law of the words of a line: runs of bytes that are neither blank nor tab. Contracts: the words of a line (cover.tokens; the reference's wordsOf). Contract: the words of a line by the reference (wordsOf). Contracts of the reference's parts for a text's words: number, mark, form. -/
import Derived.Test.YtaekcfancfoccaaGreatDoorZmTxA
import Derived.Test.YtaekcfancfoccaaGreatDoorZmZkCvW
import Derived.Test.YtaekcfancfoccaaGreatDoorZmZkCvM
import Derived.Test.YtaekcfancfoccaaGreatDoorZmTxC
import Derived.Test.YtaekcfancfoccaaGreatDoorZmShTq
import Derived.Test.YtaekcfancfoccaaGreatDoorZmZkCvN
import Derived.Test.YtaekcfancfoccaaGreatDoorZmZkCvR
import Derived.Test.YtaekcfancfoccaaGreatDoorZmTxE
namespace Go.Proofs.YtaekcfancfoccaaGreatDoor
open Go.Lib

def blankB (b : UInt8) : Bool := b == 32 || b == 9
def runEnd (l : List UInt8) (i : Nat) : Nat :=
  if h : i < l.length then (if blankB l[i] then i else runEnd l (i + 1)) else i
termination_by l.length - i
theorem runEnd_stop (l : List UInt8) (i : Nat) (h : i < l.length) (hb : blankB l[i] = true) : runEnd l i = i := by rw [runEnd, dif_pos h, if_pos hb]
theorem runEnd_end (l : List UInt8) (i : Nat) (h : ¬ i < l.length) : runEnd l i = i := by rw [runEnd, dif_neg h]
theorem runEnd_go (l : List UInt8) (i : Nat) (h : i < l.length) (hb : blankB l[i] = false) : runEnd l i = runEnd l (i + 1) := by
  rw [runEnd, dif_pos h, if_neg (by rw [hb]; simp)]
theorem runEnd_ge (l : List UInt8) : ∀ (n i : Nat), l.length - i = n → i ≤ runEnd l i
  | 0, i, h => by rw [runEnd_end l i (by omega)]; exact Nat.le_refl i
  | n + 1, i, h => by
    have hi : i < l.length := by omega
    cases hb : blankB l[i] with
    | true => rw [runEnd_stop l i hi hb]; exact Nat.le_refl i
    | false =>
      rw [runEnd_go l i hi hb]
      have := runEnd_ge l n (i + 1) (by omega)
      omega
theorem runEnd_le (l : List UInt8) : ∀ (n i : Nat), l.length - i = n → i ≤ l.length → runEnd l i ≤ l.length
  | 0, i, h, hi => by rw [runEnd_end l i (by omega)]; exact hi
  | n + 1, i, h, hi' => by
    have hi : i < l.length := by omega
    cases hb : blankB l[i] with
    | true => rw [runEnd_stop l i hi hb]; exact hi'
    | false =>
      rw [runEnd_go l i hi hb]
      exact runEnd_le l n (i + 1) (by omega) (by omega)
def wordsW (l : List UInt8) (i : Nat) : List (Nat × Nat) :=
  if h : i < l.length then (if blankB l[i] then wordsW l (i + 1) else (i, runEnd l i) :: wordsW l (runEnd l i + 1)) else []
termination_by l.length - i
decreasing_by
  · omega
  · have := runEnd_ge l _ i rfl
    omega
theorem wordsW_end (l : List UInt8) (i : Nat) (h : ¬ i < l.length) : wordsW l i = [] := by rw [wordsW, dif_neg h]
theorem wordsW_blank (l : List UInt8) (i : Nat) (h : i < l.length) (hb : blankB l[i] = true) : wordsW l i = wordsW l (i + 1) := by rw [wordsW, dif_pos h, if_pos hb]
theorem wordsW_word (l : List UInt8) (i : Nat) (h : i < l.length) (hb : blankB l[i] = false) : wordsW l i = (i, runEnd l i) :: wordsW l (runEnd l i + 1) := by
  rw [wordsW, dif_pos h, if_neg (by rw [hb]; simp)]
theorem wordsW_length (l : List UInt8) : ∀ (n i : Nat), l.length - i ≤ n → (wordsW l i).length ≤ n
  | 0, i, h => by rw [wordsW_end l i (by omega)]; exact Nat.le_refl 0
  | n + 1, i, h => by
    by_cases hi : i < l.length
    · cases hb : blankB l[i] with
      | true =>
        rw [wordsW_blank l i hi hb]
        have := wordsW_length l n (i + 1) (by omega)
        omega
      | false =>
        rw [wordsW_word l i hi hb, List.length_cons]
        have hg := runEnd_ge l _ i rfl
        have := wordsW_length l n (runEnd l i + 1) (by omega)
        omega
    · rw [wordsW_end l i hi]; exact Nat.zero_le _
def lineW (s : ByteArray) : List (Nat × Nat) := wordsW s.data.toList 0
def wordB (s : ByteArray) (p : Nat × Nat) : ByteArray := s.extract p.1 p.2

/-! ### as the code goes -/
def TokS (s : ByteArray) (O : List (Nat × Nat)) (i : Nat) : Prop := O ++ wordsW s.data.toList i = lineW s
theorem TokS.start (s : ByteArray) : TokS s [] 0 := rfl
theorem TokS.blank {s : ByteArray} {O : List (Nat × Nat)} {i : Nat} (h : TokS s O i) (hi : i < s.data.toList.length) (hb : blankB s.data.toList[i] = true) : TokS s O (i + 1) := by
  unfold TokS at *
  rw [← h, wordsW_blank _ i hi hb]
theorem TokS.word {s : ByteArray} {O : List (Nat × Nat)} {i j : Nat} (h : TokS s O i) (hi : i < s.data.toList.length) (hb : blankB s.data.toList[i] = false) (hj : runEnd s.data.toList i = j) : TokS s (O ++ [(i, j)]) (j + 1) := by
  unfold TokS at *
  rw [← h, wordsW_word _ i hi hb, hj, List.append_assoc]
  rfl
theorem TokS.done {s : ByteArray} {O : List (Nat × Nat)} {i : Nat} (h : TokS s O i) (hi : ¬ i < s.data.toList.length) : O = lineW s := by
  unfold TokS at h
  rw [← h, wordsW_end _ i hi, List.append_nil]
theorem TokS.len {s : ByteArray} {O : List (Nat × Nat)} {i : Nat} (h : TokS s O i) : O.length ≤ s.data.toList.length := by
  have h1 := congrArg List.length h
  have h2 := wordsW_length s.data.toList s.data.toList.length 0 (by omega)
  rw [List.length_append] at h1
  unfold lineW at h1
  omega
theorem blank_iff (b : UInt8) : blankB b = true ↔ b.toNat = 32 ∨ b.toNat = 9 := by
  unfold blankB
  simp only [Bool.or_eq_true, beq_iff_eq]
  constructor
  · rintro (h | h)
    · left; rw [h]; rfl
    · right; rw [h]; rfl
  · rintro (h | h)
    · left; exact UInt8.toNat_inj.1 h
    · right; exact UInt8.toNat_inj.1 h
end Go.Proofs.YtaekcfancfoccaaGreatDoor

namespace Go.Proofs.YtaekcfancfoccaaGreatDoor
open Go.RowKit Go.Lib

theorem infoTok : (Tryz.prog.info? 157).map (fun i => (i.zero, i.size, i.bytes)) = some (some (.agg #[.string ByteArray.empty, .int .i64 0, .int .i64 0]), 3, 32) := by kernel_rfl
theorem cell_three_new (w : World) (x y z : Value) (t : TypeId) : ∀ j v, [x, y, z][j]? = some v → (w.alloc (.cells #[x, y, z] t)).cell? ((⟨w.heap.size, 0, none⟩ : Addr).add j) = some v := by
  intro j v hj
  have hb := Blk.new w t #[x, y, z]
  match j, hj with
  | 0, hj => simp at hj; subst hj; exact hb.cell 0
  | 1, hj => simp at hj; subst hj; exact hb.cell 1
  | 2, hj => simp at hj; subst hj; exact hb.cell 2
  | k + 3, hj => simp at hj
theorem index_blank (b : UInt8) : (0 ≤ indexByte [32, 9] b) ↔ blankB b = true := by
  rw [blank_iff]
  unfold indexByte indexByte indexByte
  have h32 : (32 : UInt8).toNat = 32 := rfl
  have h9 : (9 : UInt8).toNat = 9 := rfl
  by_cases e : (32 : UInt8) = b
  · subst e; simp
  · by_cases e2 : (9 : UInt8) = b
    · subst e2; simp
    · have n1 : ¬ b.toNat = 32 := fun h => e (UInt8.toNat_inj.1 (by rw [h]; rfl))
      have n2 : ¬ b.toNat = 9 := fun h => e2 (UInt8.toNat_inj.1 (by rw [h]; rfl))
      simp [e, e2, n1, n2]
theorem blank_any (b : UInt8) (w : World) : Calls Tryz.prog 77 #[.string ⟨#[32, 9]⟩, .int .u8 (b.toNat : Int)] w fun e w' => ∃ n : Int, e = .returned (.int .i64 n) ∧ (0 ≤ n ↔ blankB b = true) ∧ w = w' :=
  (Tryz.strings_IndexByte ⟨#[32, 9]⟩ b.toNat w).mono fun e w' ⟨he, hw⟩ => ⟨_, he, by
    have hb : ((b.toNat : Int).toNat).toUInt8 = b := by simp
    rw [hb]
    exact index_blank b, hw.symm⟩
def tokC (s : ByteArray) (line : Int) (p : Nat × Nat) : List Value := [.string (wordB s p), .int .i64 line, .int .i64 (p.1 + 1 : Nat)]
def toksC (s : ByteArray) (line : Int) (O : List (Nat × Nat)) : List Value := (O.map (tokC s line)).flatten
theorem toksC_succ (s : ByteArray) (line : Int) (O : List (Nat × Nat)) (p : Nat × Nat) : toksC s line (O ++ [p]) = toksC s line O ++ tokC s line p := by simp [toksC]

set_option maxRecDepth 100000 in
set_option maxHeartbeats 4000000 in
theorem tokens_any (s : ByteArray) (line : Int) (hs : s.size ≤ 1000000) (w : World) :
    Calls Tryz.prog 39 #[.string s, .int .i64 line] w fun e w' => ∃ v, e = .returned v ∧ w'.ownsRow w.heap.size 157 3 v (lineW s).length (toksC s line (lineW s)) ∧ Below w.heap.size w w' := by
  have hsl := size_list s
  have HSL := Lib.hid hsl
  go_enter Tryz.func39, Tryz.ntmps39
  go_wp2
  obtain ⟨i0, hi0, hz0, hz1, hz2⟩ := info_parts infoTok
  clear hsl
  go_loopw [5, 6] (fun s5 s6 wr => ∃ (O : List (Nat × Nat)) (v : Value) (i : Nat), s5 = v ∧ s6 = .int .i64 i ∧ i ≤ s.size + 1 ∧ Hid (TokS s O i) ∧ wr.ownsRow w.heap.size 157 3 v O.length (toksC s line O) ∧ Below w.heap.size w wr) (fun _ i _ => s.size + 1 - (RowKit.intOf i).toNat)
  case atStart => exact ⟨[], _, 0, rfl, rfl, by omega, Lib.hid (TokS.start s), World.ownsRow_nil _ _ _ _, Below.refl _ _⟩
  case round =>
    obtain ⟨O, v, i, rfl, rfl, hi, HC, hown, hBB⟩ := hrel
    have hzB := Below.size hBB
    by_cases hlt : i < s.size
    · have hlt' : i < s.data.toList.length := by rw [HSL.out]; exact hlt
      have HBL := Lib.hid (blank_any s[i])
      by_cases hb : blankB s[i] = true
      · have HN := Lib.hid (HC.out.blank hlt' hb)
        have HB := Lib.hid hb; clear hb
        go_wp2_with (go_at_call 77; refine (HBL.out _).mono ?_; rintro e w2 ⟨n, rfl, hn, rfl⟩; have hn0 : decide ((0 : Int) ≤ n) = true := decide_eq_true (hn.2 HB.out); clear hn)
        exact ⟨⟨O, _, i + 1, rfl, by go_num, by omega, HN, hown, hBB⟩, by simp [RowKit.intOf]; omega⟩
      · have HBF : Hid (blankB s.data.toList[i] = false) := Lib.hid (by
          cases h : blankB s[i] with
          | true => exact absurd h hb
          | false => exact h)
        have HB := Lib.hid hb
        clear hb
        go_wp2_with (go_at_call 77; refine (HBL.out _).mono ?_; rintro e w2 ⟨n, rfl, hn, rfl⟩; have hn0 : decide ((0 : Int) ≤ n) = false := decide_eq_false (fun h => HB.out (hn.1 h)); clear hn)
        go_loopw [7] (fun s7 wr' => ∃ j : Nat, s7 = .int .i64 j ∧ i ≤ j ∧ j ≤ s.size ∧ Hid (runEnd s.data.toList i = runEnd s.data.toList j) ∧ wr = wr') (fun s7 _ => s.size - (RowKit.intOf s7).toNat)
        case atStart => exact ⟨i, rfl, Nat.le_refl _, by omega, Lib.hid rfl, rfl⟩
        case round =>
          obtain ⟨j, rfl, hij, hjs, HR, rfl⟩ := hrel
          by_cases hjt : j < s.size
          · have hjt' : j < s.data.toList.length := by rw [HSL.out]; exact hjt
            have HBJ := Lib.hid (blank_any s[j])
            by_cases hbj : blankB s[j] = true
            · have hre : runEnd s.data.toList i = j := by rw [HR.out, runEnd_stop _ j hjt' hbj]
              have HBB := Lib.hid hbj; clear hbj
              have HN := Lib.hid (HC.out.word hlt' HBF.out hre)
              have HA : Hid (toksC s line (O ++ [(i, j)]) = toksC s line O ++ [.string (s.extract i j), .int .i64 line, .int .i64 ((i : Int) + 1)] ∧ (O ++ [(i, j)]).length = O.length + 1) := Lib.hid ⟨by rw [toksC_succ]; rfl, by simp⟩
              have hOL : O.length ≤ s.size := by have := HC.out.len; rw [HSL.out] at this; exact this
              have hOo := hown.alloc (.cells #[.string (s.extract i j), .int .i64 line, .int .i64 ((i : Int) + 1)] 157)
              have hBo := hBB.alloc hzB (.cells #[.string (s.extract i j), .int .i64 line, .int .i64 ((i : Int) + 1)] 157)
              go_wp2_with (first
                | (go_at_call 77; refine (HBJ.out _).mono ?_; rintro e w3 ⟨n3, rfl, hn3, rfl⟩; have hn30 : decide (n3 < (0 : Int)) = false := decide_eq_false (Int.not_lt.2 (hn3.2 HBB.out)); clear hn3)
                | (at_builtin; refine wpList_append_own _ rfl _ _ 105 rfl w.heap.size 157 i0 _ 3 32 Tryz.underlying105 hi0 hz0 hz1 hz2 rfl (by decide) _ _ _ rfl hOo ⟨wr.heap.size, 0, none⟩ 1 1 [.string (s.extract i j), .int .i64 line, .int .i64 ((i : Int) + 1)] rfl rfl (cell_three_new _ _ _ _ _) (by simp [Value.oneCell']) (by unfold maxLen; omega) (by omega) (by first | omega | (simp; done) | (simp; omega)) ?_; intro v2 W5 hown' hgrow _))
              have hown3 : W5.ownsRow w.heap.size 157 3 v2 (O ++ [(i, j)]).length (toksC s line (O ++ [(i, j)])) := by
                rw [HA.out.1, HA.out.2]; exact hown'
              exact ⟨⟨O ++ [(i, j)], v2, j + 1, rfl, by go_num, by omega, HN, hown3, below_own hBo (Nat.le_refl _) hOo hgrow⟩, by simp [RowKit.intOf]; omega⟩
            · have HBN := Lib.hid hbj
              have HR2 : Hid (runEnd s.data.toList i = runEnd s.data.toList (j + 1)) := Lib.hid (by
                rw [HR.out, runEnd_go _ j hjt' (by
                  cases h : blankB s[j] with
                  | true => exact absurd h hbj
                  | false => exact h)])
              clear hbj
              go_wp2_with (go_at_call 77; refine (HBJ.out _).mono ?_; rintro e w3 ⟨n3, rfl, hn3, rfl⟩; have hn30 : decide (n3 < (0 : Int)) = true := decide_eq_true (Int.not_le.1 fun h => HBN.out (hn3.1 h)); clear hn3)
              exact ⟨⟨j + 1, by go_num, by omega, by omega, HR2, by first | trivial | rfl⟩, by simp [RowKit.intOf]; omega⟩
          · obtain rfl : j = s.size := by omega
            have hre : runEnd s.data.toList i = s.size := by rw [HR.out, runEnd_end _ _ (by rw [HSL.out]; omega)]
            have HN := Lib.hid (HC.out.word hlt' HBF.out hre)
            have HA : Hid (toksC s line (O ++ [(i, s.size)]) = toksC s line O ++ [.string (s.extract i s.size), .int .i64 line, .int .i64 ((i : Int) + 1)] ∧ (O ++ [(i, s.size)]).length = O.length + 1) := Lib.hid ⟨by rw [toksC_succ]; rfl, by simp⟩
            have hOL : O.length ≤ s.size := by have := HC.out.len; rw [HSL.out] at this; exact this
            have hOo := hown.alloc (.cells #[.string (s.extract i s.size), .int .i64 line, .int .i64 ((i : Int) + 1)] 157)
            have hBo := hBB.alloc hzB (.cells #[.string (s.extract i s.size), .int .i64 line, .int .i64 ((i : Int) + 1)] 157)
            go_wp2_with (at_builtin; refine wpList_append_own _ rfl _ _ 105 rfl w.heap.size 157 i0 _ 3 32 Tryz.underlying105 hi0 hz0 hz1 hz2 rfl (by decide) _ _ _ rfl hOo ⟨wr.heap.size, 0, none⟩ 1 1 [.string (s.extract i s.size), .int .i64 line, .int .i64 ((i : Int) + 1)] rfl rfl (cell_three_new _ _ _ _ _) (by simp [Value.oneCell']) (by unfold maxLen; omega) (by omega) (by first | omega | (simp; done) | (simp; omega)) ?_; intro v2 W5 hown' hgrow _)
            have hown3 : W5.ownsRow w.heap.size 157 3 v2 (O ++ [(i, s.size)]).length (toksC s line (O ++ [(i, s.size)])) := by
              rw [HA.out.1, HA.out.2]; exact hown'
            exact ⟨⟨O ++ [(i, s.size)], v2, s.size + 1, rfl, by go_num, by omega, HN, hown3, below_own hBo (Nat.le_refl _) hOo hgrow⟩, by simp [RowKit.intOf]; omega⟩
    · have HE : Hid (O = lineW s) := Lib.hid (HC.out.done (by rw [HSL.out]; exact hlt))
      have hE := HE.out
      subst hE
      go_wp2
      go_ret
      exact ⟨_, rfl, hown, hBB⟩
end Go.Proofs.YtaekcfancfoccaaGreatDoor

namespace Go.Proofs.YtaekcfancfoccaaGreatDoor
open Go.RowKit Go.Lib

theorem infoWd : (Tryz.prog.info? 164).map (fun i => (i.zero, i.size, i.bytes)) = some (some (.agg #[.string ByteArray.empty, .int .i64 0]), 2, 24) := by kernel_rfl
theorem cell_two_newK (w : World) (x y : Value) (t : TypeId) : ∀ j v, [x, y][j]? = some v → (w.alloc (.cells #[x, y] t)).cell? ((⟨w.heap.size, 0, none⟩ : Addr).add j) = some v := by
  intro j v hj
  have hb := Blk.new w t #[x, y]
  match j, hj with
  | 0, hj => simp at hj; subst hj; exact hb.cell 0
  | 1, hj => simp at hj; subst hj; exact hb.cell 1
  | k + 2, hj => simp at hj
def wdC (s : ByteArray) (p : Nat × Nat) : List Value := [.string (wordB s p), .int .i64 (p.1 + 1 : Nat)]
def wdsC (s : ByteArray) (O : List (Nat × Nat)) : List Value := (O.map (wdC s)).flatten
theorem wdsC_succ (s : ByteArray) (O : List (Nat × Nat)) (p : Nat × Nat) : wdsC s (O ++ [p]) = wdsC s O ++ wdC s p := by simp [wdsC]
def OpenS (s : ByteArray) (f i : Nat) : Prop := f < i ∧ i ≤ s.data.toList.length ∧ (∃ h : f < s.data.toList.length, blankB s.data.toList[f] = false) ∧ runEnd s.data.toList f = runEnd s.data.toList i
theorem RefS.word {s : ByteArray} {O : List (Nat × Nat)} {f i : Nat} (h : TokS s O f) (ho : OpenS s f i) (he : runEnd s.data.toList i = i) : TokS s (O ++ [(f, i)]) (i + 1) := by
  obtain ⟨_, _, ⟨hf, hb⟩, hr⟩ := ho
  exact h.word hf hb (hr.trans he)
def RefS (s : ByteArray) (O : List (Nat × Nat)) (z : Int) (i : Nat) : Prop := (z = -1 ∧ TokS s O i) ∨ ∃ f : Nat, z = f ∧ TokS s O f ∧ OpenS s f i
set_option maxRecDepth 100000 in
set_option maxHeartbeats 4000000 in
theorem wordsOf_any (s : ByteArray) (hs : s.size ≤ 1000000) (w : World) :
    Calls Tryz.prog 45 #[.string s] w fun e w' => ∃ v, e = .returned v ∧ w'.ownsRow w.heap.size 164 2 v (lineW s).length (wdsC s (lineW s)) ∧ Below w.heap.size w w' := by
  have hsl := size_list s
  have HSL := Lib.hid hsl
  go_enter Tryz.func45, Tryz.ntmps45
  go_wp2
  obtain ⟨i0, hi0, hz0, hz1, hz2⟩ := info_parts infoWd
  clear hsl
  go_loopw [3, 4, 5] (fun s3 s4 s5 wr => ∃ (O : List (Nat × Nat)) (v : Value) (z : Int) (i : Nat), s3 = v ∧ s4 = .int .i64 z ∧ s5 = .int .i64 i ∧ i ≤ s.size + 1 ∧ Hid (if i ≤ s.size then RefS s O z i else O = lineW s) ∧ wr.ownsRow w.heap.size 164 2 v O.length (wdsC s O) ∧ Below w.heap.size w wr) (fun _ _ i _ => s.size + 1 - (RowKit.intOf i).toNat)
  case atStart => exact ⟨[], _, -1, 0, rfl, rfl, rfl, by omega, Lib.hid (by rw [if_pos (Nat.zero_le _)]; exact .inl ⟨rfl, TokS.start s⟩), World.ownsRow_nil _ _ _ _, Below.refl _ _⟩
  case round =>
    obtain ⟨O, v, z, i, rfl, rfl, rfl, hi, HC0, hown, hBB⟩ := hrel
    have hzB := Below.size hBB
    by_cases hle : i ≤ s.size
    · have HC : Hid (RefS s O z i) := Lib.hid (by have := HC0.out; rwa [if_pos hle] at this)
      clear HC0
      by_cases hlt : i < s.size
      · have hlt' : i < s.data.toList.length := by rw [HSL.out]; exact hlt
        have hcb : s[i].toNat < 256 := s[i].toNat_lt
        by_cases hb : blankB s[i] = true
        · have HRE : Hid (runEnd s.data.toList i = i) := Lib.hid (runEnd_stop _ i hlt' hb)
          have hbt : s[i].toNat = 32 ∨ s[i].toNat = 9 := (blank_iff _).1 hb
          have h1 : i + 1 ≤ s.size := hlt
          have HBL : Hid (blankB s.data.toList[i] = true) := Lib.hid hb; clear hb
          rcases hbt with e | e
          · have g32 : (((s[i].toNat : Nat) : Int) != 32) = false := by rw [e]; rfl
            clear e
            rcases HC.out with ⟨rfl, hT⟩ | ⟨f, rfl, hT, hO⟩
            · have HN : Hid (if i + 1 ≤ s.size then RefS s O (-1) (i + 1) else O = lineW s) := Lib.hid (by
                rw [if_pos h1]; exact .inl ⟨rfl, hT.blank hlt' HBL.out⟩)
              clear HC hT
              go_wp2
              exact ⟨⟨O, _, -1, i + 1, rfl, rfl, by go_num, by omega, HN, hown, hBB⟩, by (first | (simp [RowKit.intOf]; done) | (simp [RowKit.intOf]; omega))⟩
            · have hT2 := RefS.word hT hO HRE.out
              have HN : Hid (if i + 1 ≤ s.size then RefS s (O ++ [(f, i)]) (-1) (i + 1) else O ++ [(f, i)] = lineW s) := Lib.hid (by
                rw [if_pos h1]; exact .inl ⟨rfl, hT2⟩)
              have HA : Hid (wdsC s (O ++ [(f, i)]) = wdsC s O ++ [.string (s.extract f i), .int .i64 ((f : Int) + 1)] ∧ (O ++ [(f, i)]).length = O.length + 1) := Lib.hid ⟨by rw [wdsC_succ]; rfl, by simp⟩
              have hOL : O.length ≤ s.size := by have := hT.len; rw [HSL.out] at this; exact this
              have hfi : f < i := hO.1
              have hOo := hown.alloc (.cells #[.string (s.extract f i), .int .i64 ((f : Int) + 1)] 164)
              have hBo := hBB.alloc hzB (.cells #[.string (s.extract f i), .int .i64 ((f : Int) + 1)] 164)
              have f0 : decide ((0 : Int) ≤ (f : Int)) = true := decide_eq_true (by omega)
              clear HC hT hT2 hO
              go_wp2_with (at_builtin; refine wpList_append_own _ rfl _ _ 114 rfl w.heap.size 164 i0 _ 2 24 Tryz.underlying114 hi0 hz0 hz1 hz2 rfl (by decide) _ _ _ rfl hOo ⟨wr.heap.size, 0, none⟩ 1 1 [.string (s.extract f i), .int .i64 ((f : Int) + 1)] rfl rfl (cell_two_newK _ _ _ _) (by simp [Value.oneCell']) (by unfold maxLen; omega) (by omega) (by first | omega | (simp; done) | (simp; omega)) ?_; intro v2 W5 hown' hgrow _)
              have hown3 : W5.ownsRow w.heap.size 164 2 v2 (O ++ [(f, i)]).length (wdsC s (O ++ [(f, i)])) := by
                rw [HA.out.1, HA.out.2]; exact hown'
              exact ⟨⟨O ++ [(f, i)], v2, -1, i + 1, rfl, rfl, by go_num, by omega, HN, hown3, below_own hBo (Nat.le_refl _) hOo hgrow⟩, by (first | (simp [RowKit.intOf]; done) | (simp [RowKit.intOf]; omega))⟩
          · have g32 : (((s[i].toNat : Nat) : Int) != 32) = true := by rw [e]; rfl
            have g9 : (((s[i].toNat : Nat) : Int) != 9) = false := by rw [e]; rfl
            clear e
            rcases HC.out with ⟨rfl, hT⟩ | ⟨f, rfl, hT, hO⟩
            · have HN : Hid (if i + 1 ≤ s.size then RefS s O (-1) (i + 1) else O = lineW s) := Lib.hid (by
                rw [if_pos h1]; exact .inl ⟨rfl, hT.blank hlt' HBL.out⟩)
              clear HC hT
              go_wp2
              exact ⟨⟨O, _, -1, i + 1, rfl, rfl, by go_num, by omega, HN, hown, hBB⟩, by (first | (simp [RowKit.intOf]; done) | (simp [RowKit.intOf]; omega))⟩
            · have hT2 := RefS.word hT hO HRE.out
              have HN : Hid (if i + 1 ≤ s.size then RefS s (O ++ [(f, i)]) (-1) (i + 1) else O ++ [(f, i)] = lineW s) := Lib.hid (by
                rw [if_pos h1]; exact .inl ⟨rfl, hT2⟩)
              have HA : Hid (wdsC s (O ++ [(f, i)]) = wdsC s O ++ [.string (s.extract f i), .int .i64 ((f : Int) + 1)] ∧ (O ++ [(f, i)]).length = O.length + 1) := Lib.hid ⟨by rw [wdsC_succ]; rfl, by simp⟩
              have hOL : O.length ≤ s.size := by have := hT.len; rw [HSL.out] at this; exact this
              have hfi : f < i := hO.1
              have hOo := hown.alloc (.cells #[.string (s.extract f i), .int .i64 ((f : Int) + 1)] 164)
              have hBo := hBB.alloc hzB (.cells #[.string (s.extract f i), .int .i64 ((f : Int) + 1)] 164)
              have f0 : decide ((0 : Int) ≤ (f : Int)) = true := decide_eq_true (by omega)
              clear HC hT hT2 hO
              go_wp2_with (at_builtin; refine wpList_append_own _ rfl _ _ 114 rfl w.heap.size 164 i0 _ 2 24 Tryz.underlying114 hi0 hz0 hz1 hz2 rfl (by decide) _ _ _ rfl hOo ⟨wr.heap.size, 0, none⟩ 1 1 [.string (s.extract f i), .int .i64 ((f : Int) + 1)] rfl rfl (cell_two_newK _ _ _ _) (by simp [Value.oneCell']) (by unfold maxLen; omega) (by omega) (by first | omega | (simp; done) | (simp; omega)) ?_; intro v2 W5 hown' hgrow _)
              have hown3 : W5.ownsRow w.heap.size 164 2 v2 (O ++ [(f, i)]).length (wdsC s (O ++ [(f, i)])) := by
                rw [HA.out.1, HA.out.2]; exact hown'
              exact ⟨⟨O ++ [(f, i)], v2, -1, i + 1, rfl, rfl, by go_num, by omega, HN, hown3, below_own hBo (Nat.le_refl _) hOo hgrow⟩, by (first | (simp [RowKit.intOf]; done) | (simp [RowKit.intOf]; omega))⟩
        · have hbt : ¬ (s[i].toNat = 32 ∨ s[i].toNat = 9) := fun h => hb ((blank_iff _).2 h)
          have g32 : (((s[i].toNat : Nat) : Int) != 32) = true := by rw [bne_iff_ne]; intro e; exact hbt (.inl (by omega))
          have g9 : (((s[i].toNat : Nat) : Int) != 9) = true := by rw [bne_iff_ne]; intro e; exact hbt (.inr (by omega))
          have HBF : Hid (blankB s.data.toList[i] = false) := Lib.hid (by
            cases h : blankB s[i] with
            | true => exact absurd h hb
            | false => exact h)
          have HRN : Hid (runEnd s.data.toList i = runEnd s.data.toList (i + 1)) := Lib.hid (runEnd_go _ i hlt' HBF.out)
          have h1 : i + 1 ≤ s.size := hlt
          clear hb hbt
          rcases HC.out with ⟨rfl, hT⟩ | ⟨f, rfl, hT, hO⟩
          · have HN : Hid (if i + 1 ≤ s.size then RefS s O (i : Int) (i + 1) else O = lineW s) := Lib.hid (by
              rw [if_pos h1]; exact .inr ⟨i, rfl, hT, by omega, (by have := HSL.out; omega), ⟨hlt', HBF.out⟩, HRN.out⟩)
            clear HC hT
            go_wp2
            exact ⟨⟨O, _, (i : Int), i + 1, rfl, rfl, by go_num, by omega, HN, hown, hBB⟩, by (first | (simp [RowKit.intOf]; done) | (simp [RowKit.intOf]; omega))⟩
          · have HN : Hid (if i + 1 ≤ s.size then RefS s O (f : Int) (i + 1) else O = lineW s) := Lib.hid (by
              rw [if_pos h1]; exact .inr ⟨f, rfl, hT, (by have := hO.1; omega), (by have := HSL.out; omega), hO.2.2.1, hO.2.2.2.trans HRN.out⟩)
            have f0 : decide ((f : Int) < 0) = false := decide_eq_false (by omega)
            clear HC hT hO
            go_wp2
            exact ⟨⟨O, _, (f : Int), i + 1, rfl, rfl, by go_num, by omega, HN, hown, hBB⟩, by (first | (simp [RowKit.intOf]; done) | (simp [RowKit.intOf]; omega))⟩
      · obtain rfl : i = s.size := by omega
        have HRE : Hid (runEnd s.data.toList s.size = s.size) := Lib.hid (runEnd_end _ _ (by rw [HSL.out]; omega))
        rcases HC.out with ⟨rfl, hT⟩ | ⟨f, rfl, hT, hO⟩
        · have HN : Hid (if s.size + 1 ≤ s.size then RefS s O (-1) (s.size + 1) else O = lineW s) := Lib.hid (by
            rw [if_neg (by omega)]; exact hT.done (by rw [HSL.out]; omega))
          clear HC hT
          go_wp2
          exact ⟨⟨O, _, -1, s.size + 1, rfl, rfl, by go_num, by omega, HN, hown, hBB⟩, by (first | (simp [RowKit.intOf]; done) | (simp [RowKit.intOf]; omega))⟩
        · have hT2 := RefS.word hT hO HRE.out
          have HN : Hid (if s.size + 1 ≤ s.size then RefS s (O ++ [(f, s.size)]) (-1) (s.size + 1) else O ++ [(f, s.size)] = lineW s) := Lib.hid (by
            rw [if_neg (by omega)]; exact hT2.done (by rw [HSL.out]; omega))
          have HA : Hid (wdsC s (O ++ [(f, s.size)]) = wdsC s O ++ [.string (s.extract f s.size), .int .i64 ((f : Int) + 1)] ∧ (O ++ [(f, s.size)]).length = O.length + 1) := Lib.hid ⟨by rw [wdsC_succ]; rfl, by simp⟩
          have hOL : O.length ≤ s.size := by have := hT.len; rw [HSL.out] at this; exact this
          have hfi : f < s.size := hO.1
          have hOo := hown.alloc (.cells #[.string (s.extract f s.size), .int .i64 ((f : Int) + 1)] 164)
          have hBo := hBB.alloc hzB (.cells #[.string (s.extract f s.size), .int .i64 ((f : Int) + 1)] 164)
          have f0 : decide ((0 : Int) ≤ (f : Int)) = true := decide_eq_true (by omega)
          clear HC hT hT2 hO
          go_wp2_with (at_builtin; refine wpList_append_own _ rfl _ _ 114 rfl w.heap.size 164 i0 _ 2 24 Tryz.underlying114 hi0 hz0 hz1 hz2 rfl (by decide) _ _ _ rfl hOo ⟨wr.heap.size, 0, none⟩ 1 1 [.string (s.extract f s.size), .int .i64 ((f : Int) + 1)] rfl rfl (cell_two_newK _ _ _ _) (by simp [Value.oneCell']) (by unfold maxLen; omega) (by omega) (by first | omega | (simp; done) | (simp; omega)) ?_; intro v2 W5 hown' hgrow _)
          have hown3 : W5.ownsRow w.heap.size 164 2 v2 (O ++ [(f, s.size)]).length (wdsC s (O ++ [(f, s.size)])) := by
            rw [HA.out.1, HA.out.2]; exact hown'
          exact ⟨⟨O ++ [(f, s.size)], v2, -1, s.size + 1, rfl, rfl, by go_num, by omega, HN, hown3, below_own hBo (Nat.le_refl _) hOo hgrow⟩, by (first | (simp [RowKit.intOf]; done) | (simp [RowKit.intOf]; omega))⟩
    · have hE : O = lineW s := by have := HC0.out; rwa [if_neg hle] at this
      obtain rfl : i = s.size + 1 := by omega
      subst hE
      clear HC0
      go_wp2
      go_ret
      exact ⟨_, rfl, hown, hBB⟩
    end Go.Proofs.YtaekcfancfoccaaGreatDoor
    

namespace Go.Proofs.YtaekcfancfoccaaGreatDoor
open Go.RowKit Go.Lib

def wsC (l : List (ByteArray × Int)) : List Value := (l.map fun p => [Value.string p.1, .int .i64 p.2]).flatten
def wordsC (s : ByteArray) (O : List (Nat × Nat)) : List (ByteArray × Int) := O.map fun p => (wordB s p, ((p.1 + 1 : Nat) : Int))
theorem wdsC_eq (s : ByteArray) (O : List (Nat × Nat)) : wdsC s O = wsC (wordsC s O) := by
  unfold wdsC wsC wordsC
  rw [List.map_map]; rfl
theorem wsC_get : ∀ (l : List (ByteArray × Int)) (k : Nat) (r : ByteArray × Int), l[k]? = some r → (wsC l)[k * 2]? = some (.string r.1) ∧ (wsC l)[k * 2 + 1]? = some (.int .i64 r.2)
  | [], k, p, h => by simp at h
  | q :: l, 0, p, h => by obtain rfl : q = p := by simpa using h
                          exact ⟨rfl, rfl⟩
  | q :: l, k + 1, p, h => by
    have ih := wsC_get l k p (by simpa using h)
    have e : ∀ j, (wsC (q :: l))[(k + 1) * 2 + j]? = (wsC l)[k * 2 + j]? := fun j => by
      rw [show (k + 1) * 2 + j = (k * 2 + j) + 2 by omega]; rfl
    exact ⟨(e 0).trans ih.1, (e 1).trans ih.2⟩
theorem wsCells {w : World} {l : List (ByteArray × Int)} {A : Option Addr} {B : Nat} (h : Row w B 2 A l.length (wsC l)) {k : Nat} (hk : k < l.length) :
    ∃ g o, A = some ⟨g, o, none⟩ ∧ g < B ∧ w.cell? ⟨g, o + k * 2, none⟩ = some (.string l[k].1) ∧ w.cell? ⟨g, o + k * 2 + 1, none⟩ = some (.int .i64 l[k].2) := by
  obtain ⟨g, o, e, hg, hc⟩ := h.2 (by omega)
  have hr := wsC_get l k l[k] (List.getElem?_eq_getElem hk)
  exact ⟨g, o, e, hg, hc _ _ hr.1, by rw [Nat.add_assoc]; exact hc _ _ hr.2⟩

def formE (c : UInt8) (t : ByteArray) : Int :=
  if c.toNat = 110 then (if nameB t then 0 else 4)
  else if c.toNat = 116 then (if t.toList = [116, 104, 105, 99, 107] then 0 else 7)
  else if c.toNat = 122 then (if t.toList = [122, 111, 110, 101] then 0 else 7)
  else if c.toNat = 57 then (if numL 9 t.data.toList = none then 7 else 0)
  else 0
def formP (L : ByteArray) (ws : List (ByteArray × Int)) (k : Nat) : Nat × Int :=
  if h : k < L.size then
    if h2 : k < ws.length then (if formE L[k] ws[k].1 = 0 then formP L ws (k + 1) else (k, formE L[k] ws[k].1))
    else (k, 6)
  else if L.size < ws.length then (L.size, 7) else (0, 0)
termination_by L.size - k
theorem formP_out {L : ByteArray} {ws : List (ByteArray × Int)} {k : Nat} (h : k < L.size) (h2 : ¬ k < ws.length) : formP L ws k = (k, 6) := by rw [formP, dif_pos h, dif_neg h2]
theorem formP_go {L : ByteArray} {ws : List (ByteArray × Int)} {k : Nat} (h : k < L.size) (h2 : k < ws.length) (e : formE L[k] ws[k].1 = 0) : formP L ws k = formP L ws (k + 1) := by rw [formP, dif_pos h, dif_pos h2, if_pos e]
theorem formP_bad {L : ByteArray} {ws : List (ByteArray × Int)} {k : Nat} {n : Int} (h : k < L.size) (h2 : k < ws.length) (e : formE L[k] ws[k].1 = n) (hn : n ≠ 0) : formP L ws k = (k, n) := by rw [formP, dif_pos h, dif_pos h2, e, if_neg hn]
theorem formP_end {L : ByteArray} {ws : List (ByteArray × Int)} {k : Nat} (h : ¬ k < L.size) : formP L ws k = if L.size < ws.length then (L.size, 7) else (0, 0) := by rw [formP, dif_neg h]

theorem number_word (t : ByteArray) (c : Int) (hs : t.size ≤ 1000000) (w : World) :
    Calls Tryz.prog 83 #[.agg #[.string t, .int .i64 c]] w fun e w' => e = .returned (.int .i64 ((numL 9 t.data.toList).getD 0)) ∧ Below w.heap.size w w' := by
  have hn := number_any t 9 (by decide) hs
  cases h : numL 9 t.data.toList with
  | none =>
    rw [h] at hn
    have HN := Lib.hid hn
    clear hn h
    go_enter Tryz.func83, Tryz.ntmps83
    go_wp2_with (go_at_call 53; refine (HN.out _).mono ?_; rintro e w1 ⟨rfl, rfl⟩; unfold numO)
    go_ret
    exact ⟨rfl, (by repeat first | (with_reducible first | exact Below.refl _ _ | assumption) | ((with_reducible first | refine Below.setCell ?_ ?_ _ | refine Below.alloc ?_ ?_ _); rotate_left; · first | exact Nat.le_refl _ | (simp; done) | (simp; omega) | omega) | (with_reducible first | apply Below.drew | apply below_drewN') | refine Below.trans ?_ (Below.mono (by assumption) (by first | exact Nat.le_refl _ | (simp; done) | (simp; omega) | omega)) | exact Below.refl _ _ | assumption)⟩
  | some v =>
    rw [h] at hn
    have HN := Lib.hid hn
    clear hn h
    go_enter Tryz.func83, Tryz.ntmps83
    go_wp2_with (go_at_call 53; refine (HN.out _).mono ?_; rintro e w1 ⟨rfl, rfl⟩; unfold numO)
    go_ret
    exact ⟨rfl, (by repeat first | (with_reducible first | exact Below.refl _ _ | assumption) | ((with_reducible first | refine Below.setCell ?_ ?_ _ | refine Below.alloc ?_ ?_ _); rotate_left; · first | exact Nat.le_refl _ | (simp; done) | (simp; omega) | omega) | (with_reducible first | apply Below.drew | apply below_drewN') | refine Below.trans ?_ (Below.mono (by assumption) (by first | exact Nat.le_refl _ | (simp; done) | (simp; omega) | omega)) | exact Below.refl _ _ | assumption)⟩

set_option maxRecDepth 100000 in
set_option maxHeartbeats 2000000 in
theorem form_any (L : ByteArray) (ws : List (ByteArray × Int)) (A : Option Addr) (c B : Nat) (w : World) (hL : L.size ≤ 100) (_hn : ws.length ≤ 1000000) (hs : ∀ p ∈ ws, p.1.size ≤ 1000000) (hR : Row w B 2 A ws.length (wsC ws)) (hB : B ≤ w.heap.size) :
    Calls Tryz.prog 82 #[.slice A ws.length c, .string L] w fun e w' => ∃ (k : Nat) (n : Int), e = .returned (.tuple #[.int .i64 k, .int .i64 n]) ∧ Hid (formP L ws 1 = (k, n)) ∧ Below w.heap.size w w' := by
  go_enter Tryz.func82, Tryz.ntmps82
  go_wp2
  go_loopw [6, 7, 8, 9] (fun s6 s7 s8 s9 wr => ∃ k : Nat, s6 = .int .i64 k ∧ Hid (formP L ws 1 = formP L ws k) ∧ Below w.heap.size w wr) (fun i _ _ _ _ => L.size - (RowKit.intOf i).toNat)
  case atStart => exact ⟨1, rfl, Lib.hid rfl, Below.refl _ _⟩
  case round =>
    obtain ⟨k, rfl, HK, hBB⟩ := hrel
    by_cases hlt : k < L.size
    · by_cases hl2 : k < ws.length
      · obtain ⟨g, o, rfl, hg, c0, c1⟩ := wsCells (hR.below hBB hB) hl2
        have HBAD : Hid (∀ n, formE L[k] ws[k].1 = n → n ≠ 0 → formP L ws 1 = (k, n)) := Lib.hid fun n h1 h2 => HK.out.trans (formP_bad hlt hl2 h1 h2)
        have HGO : Hid (formE L[k] ws[k].1 = 0 → formP L ws 1 = formP L ws (k + 1)) := Lib.hid fun h1 => HK.out.trans (formP_go hlt hl2 h1)
        have hsz : (ws[k].1).size ≤ 1000000 := hs _ (List.getElem_mem hl2)
        clear HK
        generalize ws[k].1 = t at *
        have hcb : L[k].toNat < 256 := L[k].toNat_lt
        have hnum := number_any t 9 (by decide) hsz
        by_cases h110 : L[k].toNat = 110
        · skip
          have g110 : (((L[k].toNat : Nat) : Int) == 110) = true := by simpa using (by omega : ((L[k].toNat : Nat) : Int) = 110)
          have g116 : (((L[k].toNat : Nat) : Int) == 116) = false := beq_eq_false_iff_ne.2 (by omega)
          have g122 : (((L[k].toNat : Nat) : Int) == 122) = false := beq_eq_false_iff_ne.2 (by omega)
          have g57 : (((L[k].toNat : Nat) : Int) == 57) = false := beq_eq_false_iff_ne.2 (by omega)
          cases hnm : nameB t with
          | false =>
            have HNB := Lib.hid hnm
            have HNM := Lib.hid hnum
            have HE : Hid (formP L ws 1 = (k, 4)) := Lib.hid (HBAD.out 4 (by unfold formE;  rw [if_pos (by omega)]; rw [hnm]; rfl) (by decide))
            clear hnm hnum
            clear HBAD HGO
            go_wp2_with (first | (go_at_call 35; refine (bIsName_any t _ (by omega)).mono ?_; rw [HNB.out]; rintro e w1 ⟨rfl, rfl⟩) | (go_at_call 53; refine (HNM.out _).mono ?_; rintro e w1 ⟨rfl, rfl⟩; unfold numO))
            exact bodyPost_ret (v := .tuple #[.int .i64 k, .int .i64 4]) (by simp [results, Tryz.results82, go_sem]) rfl ⟨k, 4, rfl, HE, hBB⟩
          | true =>
            cases ho : numL 9 t.data.toList with
            | none =>
              rw [ho] at hnum
              have HNM := Lib.hid hnum
              have HNB := Lib.hid hnm
              have HE : Hid (formP L ws 1 = formP L ws (k + 1)) := Lib.hid (HGO.out (by unfold formE;  rw [if_pos (by omega)]; rw [hnm]; rfl))
              clear hnm hnum ho
              clear HBAD HGO
              go_wp2_with (first | (go_at_call 35; refine (bIsName_any t _ (by omega)).mono ?_; rw [HNB.out]; rintro e w1 ⟨rfl, rfl⟩) | (go_at_call 53; refine (HNM.out _).mono ?_; rintro e w1 ⟨rfl, rfl⟩; unfold numO))
              exact ⟨⟨k + 1, by go_num, HE, hBB⟩, by (first | (simp [RowKit.intOf]; done) | (simp [RowKit.intOf]; omega))⟩
            | some v =>
              rw [ho] at hnum
              have HNM := Lib.hid hnum
              have HNB := Lib.hid hnm
              have HE : Hid (formP L ws 1 = formP L ws (k + 1)) := Lib.hid (HGO.out (by unfold formE;  rw [if_pos (by omega)]; rw [hnm]; rfl))
              clear hnm hnum ho
              clear HBAD HGO
              go_wp2_with (first | (go_at_call 35; refine (bIsName_any t _ (by omega)).mono ?_; rw [HNB.out]; rintro e w1 ⟨rfl, rfl⟩) | (go_at_call 53; refine (HNM.out _).mono ?_; rintro e w1 ⟨rfl, rfl⟩; unfold numO))
              exact ⟨⟨k + 1, by go_num, HE, hBB⟩, by (first | (simp [RowKit.intOf]; done) | (simp [RowKit.intOf]; omega))⟩
        · skip
          by_cases h116 : L[k].toNat = 116
          · skip
            have g110 : (((L[k].toNat : Nat) : Int) == 110) = false := beq_eq_false_iff_ne.2 (by omega)
            have g116 : (((L[k].toNat : Nat) : Int) == 116) = true := by simpa using (by omega : ((L[k].toNat : Nat) : Int) = 116)
            have g122 : (((L[k].toNat : Nat) : Int) == 122) = false := beq_eq_false_iff_ne.2 (by omega)
            have g57 : (((L[k].toNat : Nat) : Int) == 57) = false := beq_eq_false_iff_ne.2 (by omega)
            cases ho : numL 9 t.data.toList with
            | none =>
              rw [ho] at hnum
              have HNM := Lib.hid hnum
              by_cases ht : t.toList = [116, 104, 105, 99, 107]
              · skip
                have HE : Hid (formP L ws 1 = formP L ws (k + 1)) := Lib.hid (HGO.out (by unfold formE; rw [if_neg (by omega)]; rw [if_pos (by omega)]; rw [if_pos ht]))
                clear hnum ho
                clear HBAD HGO
                go_wp2_with ((go_at_call 53; refine (HNM.out _).mono ?_; rintro e w1 ⟨rfl, rfl⟩; unfold numO))
                exact ⟨⟨k + 1, by go_num, HE, hBB⟩, by (first | (simp [RowKit.intOf]; done) | (simp [RowKit.intOf]; omega))⟩
              · skip
                have HE : Hid (formP L ws 1 = (k, 7)) := Lib.hid (HBAD.out 7 (by unfold formE; rw [if_neg (by omega)]; rw [if_pos (by omega)]; rw [if_neg ht]) (by decide))
                clear hnum ho
                clear HBAD HGO
                go_wp2_with ((go_at_call 53; refine (HNM.out _).mono ?_; rintro e w1 ⟨rfl, rfl⟩; unfold numO))
                exact bodyPost_ret (v := .tuple #[.int .i64 k, .int .i64 7]) (by simp [results, Tryz.results82, go_sem]) rfl ⟨k, 7, rfl, HE, hBB⟩
            | some v =>
              rw [ho] at hnum
              have HNM := Lib.hid hnum
              by_cases ht : t.toList = [116, 104, 105, 99, 107]
              · skip
                have HE : Hid (formP L ws 1 = formP L ws (k + 1)) := Lib.hid (HGO.out (by unfold formE; rw [if_neg (by omega)]; rw [if_pos (by omega)]; rw [if_pos ht]))
                clear hnum ho
                clear HBAD HGO
                go_wp2_with ((go_at_call 53; refine (HNM.out _).mono ?_; rintro e w1 ⟨rfl, rfl⟩; unfold numO))
                exact ⟨⟨k + 1, by go_num, HE, hBB⟩, by (first | (simp [RowKit.intOf]; done) | (simp [RowKit.intOf]; omega))⟩
              · skip
                have HE : Hid (formP L ws 1 = (k, 7)) := Lib.hid (HBAD.out 7 (by unfold formE; rw [if_neg (by omega)]; rw [if_pos (by omega)]; rw [if_neg ht]) (by decide))
                clear hnum ho
                clear HBAD HGO
                go_wp2_with ((go_at_call 53; refine (HNM.out _).mono ?_; rintro e w1 ⟨rfl, rfl⟩; unfold numO))
                exact bodyPost_ret (v := .tuple #[.int .i64 k, .int .i64 7]) (by simp [results, Tryz.results82, go_sem]) rfl ⟨k, 7, rfl, HE, hBB⟩
          · skip
            by_cases h122 : L[k].toNat = 122
            · skip
              have g110 : (((L[k].toNat : Nat) : Int) == 110) = false := beq_eq_false_iff_ne.2 (by omega)
              have g116 : (((L[k].toNat : Nat) : Int) == 116) = false := beq_eq_false_iff_ne.2 (by omega)
              have g122 : (((L[k].toNat : Nat) : Int) == 122) = true := by simpa using (by omega : ((L[k].toNat : Nat) : Int) = 122)
              have g57 : (((L[k].toNat : Nat) : Int) == 57) = false := beq_eq_false_iff_ne.2 (by omega)
              cases ho : numL 9 t.data.toList with
              | none =>
                rw [ho] at hnum
                have HNM := Lib.hid hnum
                by_cases ht : t.toList = [122, 111, 110, 101]
                · skip
                  have HE : Hid (formP L ws 1 = formP L ws (k + 1)) := Lib.hid (HGO.out (by unfold formE; rw [if_neg (by omega)]; rw [if_neg (by omega)]; rw [if_pos (by omega)]; rw [if_pos ht]))
                  clear hnum ho
                  clear HBAD HGO
                  go_wp2_with ((go_at_call 53; refine (HNM.out _).mono ?_; rintro e w1 ⟨rfl, rfl⟩; unfold numO))
                  exact ⟨⟨k + 1, by go_num, HE, hBB⟩, by (first | (simp [RowKit.intOf]; done) | (simp [RowKit.intOf]; omega))⟩
                · skip
                  have HE : Hid (formP L ws 1 = (k, 7)) := Lib.hid (HBAD.out 7 (by unfold formE; rw [if_neg (by omega)]; rw [if_neg (by omega)]; rw [if_pos (by omega)]; rw [if_neg ht]) (by decide))
                  clear hnum ho
                  clear HBAD HGO
                  go_wp2_with ((go_at_call 53; refine (HNM.out _).mono ?_; rintro e w1 ⟨rfl, rfl⟩; unfold numO))
                  exact bodyPost_ret (v := .tuple #[.int .i64 k, .int .i64 7]) (by simp [results, Tryz.results82, go_sem]) rfl ⟨k, 7, rfl, HE, hBB⟩
              | some v =>
                rw [ho] at hnum
                have HNM := Lib.hid hnum
                by_cases ht : t.toList = [122, 111, 110, 101]
                · skip
                  have HE : Hid (formP L ws 1 = formP L ws (k + 1)) := Lib.hid (HGO.out (by unfold formE; rw [if_neg (by omega)]; rw [if_neg (by omega)]; rw [if_pos (by omega)]; rw [if_pos ht]))
                  clear hnum ho
                  clear HBAD HGO
                  go_wp2_with ((go_at_call 53; refine (HNM.out _).mono ?_; rintro e w1 ⟨rfl, rfl⟩; unfold numO))
                  exact ⟨⟨k + 1, by go_num, HE, hBB⟩, by (first | (simp [RowKit.intOf]; done) | (simp [RowKit.intOf]; omega))⟩
                · skip
                  have HE : Hid (formP L ws 1 = (k, 7)) := Lib.hid (HBAD.out 7 (by unfold formE; rw [if_neg (by omega)]; rw [if_neg (by omega)]; rw [if_pos (by omega)]; rw [if_neg ht]) (by decide))
                  clear hnum ho
                  clear HBAD HGO
                  go_wp2_with ((go_at_call 53; refine (HNM.out _).mono ?_; rintro e w1 ⟨rfl, rfl⟩; unfold numO))
                  exact bodyPost_ret (v := .tuple #[.int .i64 k, .int .i64 7]) (by simp [results, Tryz.results82, go_sem]) rfl ⟨k, 7, rfl, HE, hBB⟩
            · skip
              by_cases h57 : L[k].toNat = 57
              · skip
                have g110 : (((L[k].toNat : Nat) : Int) == 110) = false := beq_eq_false_iff_ne.2 (by omega)
                have g116 : (((L[k].toNat : Nat) : Int) == 116) = false := beq_eq_false_iff_ne.2 (by omega)
                have g122 : (((L[k].toNat : Nat) : Int) == 122) = false := beq_eq_false_iff_ne.2 (by omega)
                have g57 : (((L[k].toNat : Nat) : Int) == 57) = true := by simpa using (by omega : ((L[k].toNat : Nat) : Int) = 57)
                cases ho : numL 9 t.data.toList with
                | none =>
                  rw [ho] at hnum
                  have HNM := Lib.hid hnum
                  have HE : Hid (formP L ws 1 = (k, 7)) := Lib.hid (HBAD.out 7 (by unfold formE; rw [if_neg (by omega)]; rw [if_neg (by omega)]; rw [if_neg (by omega)]; rw [if_pos (by omega)]; rw [if_pos ho]) (by decide))
                  clear hnum ho
                  clear HBAD HGO
                  go_wp2_with ((go_at_call 53; refine (HNM.out _).mono ?_; rintro e w1 ⟨rfl, rfl⟩; unfold numO))
                  exact bodyPost_ret (v := .tuple #[.int .i64 k, .int .i64 7]) (by simp [results, Tryz.results82, go_sem]) rfl ⟨k, 7, rfl, HE, hBB⟩
                | some v =>
                  rw [ho] at hnum
                  have HNM := Lib.hid hnum
                  have HE : Hid (formP L ws 1 = formP L ws (k + 1)) := Lib.hid (HGO.out (by unfold formE; rw [if_neg (by omega)]; rw [if_neg (by omega)]; rw [if_neg (by omega)]; rw [if_pos (by omega)]; rw [if_neg (by rw [ho]; simp)]))
                  clear hnum ho
                  clear HBAD HGO
                  go_wp2_with ((go_at_call 53; refine (HNM.out _).mono ?_; rintro e w1 ⟨rfl, rfl⟩; unfold numO))
                  exact ⟨⟨k + 1, by go_num, HE, hBB⟩, by (first | (simp [RowKit.intOf]; done) | (simp [RowKit.intOf]; omega))⟩
              · skip
                have g110 : (((L[k].toNat : Nat) : Int) == 110) = false := beq_eq_false_iff_ne.2 (by omega)
                have g116 : (((L[k].toNat : Nat) : Int) == 116) = false := beq_eq_false_iff_ne.2 (by omega)
                have g122 : (((L[k].toNat : Nat) : Int) == 122) = false := beq_eq_false_iff_ne.2 (by omega)
                have g57 : (((L[k].toNat : Nat) : Int) == 57) = false := beq_eq_false_iff_ne.2 (by omega)
                cases ho : numL 9 t.data.toList with
                | none =>
                  rw [ho] at hnum
                  have HNM := Lib.hid hnum
                  have HE : Hid (formP L ws 1 = formP L ws (k + 1)) := Lib.hid (HGO.out (by unfold formE; rw [if_neg (by omega)]; rw [if_neg (by omega)]; rw [if_neg (by omega)]; rw [if_neg (by omega)]; first | done | rfl))
                  clear hnum ho
                  clear HBAD HGO
                  go_wp2_with ((go_at_call 53; refine (HNM.out _).mono ?_; rintro e w1 ⟨rfl, rfl⟩; unfold numO))
                  exact ⟨⟨k + 1, by go_num, HE, hBB⟩, by (first | (simp [RowKit.intOf]; done) | (simp [RowKit.intOf]; omega))⟩
                | some v =>
                  rw [ho] at hnum
                  have HNM := Lib.hid hnum
                  have HE : Hid (formP L ws 1 = formP L ws (k + 1)) := Lib.hid (HGO.out (by unfold formE; rw [if_neg (by omega)]; rw [if_neg (by omega)]; rw [if_neg (by omega)]; rw [if_neg (by omega)]; first | done | rfl))
                  clear hnum ho
                  clear HBAD HGO
                  go_wp2_with ((go_at_call 53; refine (HNM.out _).mono ?_; rintro e w1 ⟨rfl, rfl⟩; unfold numO))
                  exact ⟨⟨k + 1, by go_num, HE, hBB⟩, by (first | (simp [RowKit.intOf]; done) | (simp [RowKit.intOf]; omega))⟩
      · have HE : Hid (formP L ws 1 = (k, 6)) := Lib.hid (HK.out.trans (formP_out hlt hl2))
        clear HK
        go_wp2
        exact bodyPost_ret (v := .tuple #[.int .i64 k, .int .i64 6]) (by simp [results, Tryz.results82, go_sem]) rfl ⟨k, 6, rfl, HE, hBB⟩
    · have HE : Hid (formP L ws 1 = if L.size < ws.length then (L.size, 7) else (0, 0)) := Lib.hid (HK.out.trans (formP_end hlt))
      clear HK
      by_cases hgt : L.size < ws.length
      · have HE2 : Hid (formP L ws 1 = (L.size, 7)) := Lib.hid (by rw [HE.out, if_pos hgt])
        clear HE
        go_wp2
        exact bodyPost_ret (v := .tuple #[.int .i64 L.size, .int .i64 7]) (by simp [results, Tryz.results82, go_sem]) rfl ⟨L.size, 7, rfl, HE2, hBB⟩
      · have HE2 : Hid (formP L ws 1 = (0, 0)) := Lib.hid (by rw [HE.out, if_neg hgt])
        clear HE
        go_wp2
        exact bodyPost_ret (v := .tuple #[.int .i64 0, .int .i64 0]) (by simp [results, Tryz.results82, go_sem]) rfl ⟨0, 0, rfl, HE2, hBB⟩
end Go.Proofs.YtaekcfancfoccaaGreatDoor
