/- A log replayed (office.replay). -/
import Derived.Test.YtmdbpkomanhpoaaGreatDoorZqOeN
namespace Go.Proofs.YtmdbpkomanhpoaaGreatDoor
open Go.RowKit Go.Lib

def enF (x : ByteArray × ByteArray) : List Value := [.string x.1, .string x.2]
theorem enF_len (x : ByteArray × ByteArray) : (enF x).length = 2 := rfl
/-- What entries come to: the state, the number of the first wrong one, its error. -/
def runL (s : Se) : In → List (ByteArray × ByteArray) → Nat → In × Nat × Int
  | st, [], _ => (st, 0, 0)
  | st, x :: l, k => if enterE s st x.1 x.2 = 0 then runL s (enterS s st x.1 x.2) l (k + 1) else (st, k, enterE s st x.1 x.2)
theorem runL_drop {s : Se} {st : In} {l : List (ByteArray × ByteArray)} {k : Nat} (h : k < l.length) : runL s st (l.drop k) k = if enterE s st l[k].1 l[k].2 = 0 then runL s (enterS s st l[k].1 l[k].2) (l.drop (k + 1)) (k + 1) else (st, k, enterE s st l[k].1 l[k].2) := by
  rw [List.drop_eq_getElem_cons h]
  rfl
/-- What a log comes to. -/
def replV (s : Se) (log : List (ByteArray × ByteArray)) : In × Nat × Int :=
  if (setupE' s).2 ≠ 0 then (in0, 0, (setupE' s).2) else if 60 < log.length then (in0, 0, 8) else runL s in0 log 0
def ReplR (s : Se) (m : Me) (B N : Nat) (log : List (ByteArray × ByteArray)) (e : Ending) (w' : World) : Prop :=
  ((replV s log).2.2 ≠ 0 ∧ e = .returned (.tuple #[.pointer none, .int .i64 ((replV s log).2.1 : Nat), .int .i64 (replV s log).2.2])) ∨
  ((replV s log).2.2 = 0 ∧ ∃ base bx a, N ≤ base ∧ e = .returned (.tuple #[.pointer (some ⟨bx, 0, none⟩), .int .i64 0, .int .i64 0]) ∧ Isp s m B base bx a (replV s log).1 w')
/-- Entries in memory. -/
structure LogOk (log : List (ByteArray × ByteArray)) (A : Option Addr) (c C : Nat) (w : World) : Prop where
  row : Row w C 2 A log.length (rowsC enF log)
  base : C ≤ w.heap.size
  sz : ∀ x ∈ log, x.2.size ≤ 1000000
  len : log.length ≤ 9223372036854775807
theorem LogOk.below {log : List (ByteArray × ByteArray)} {A : Option Addr} {c C D : Nat} {w w' : World} (h : LogOk log A c C w) (hb : Below D w w') (hC : C ≤ D) : LogOk log A c C w' := ⟨h.row.below hb hC, Nat.le_trans h.base hb.size, h.sz, h.len⟩
theorem setup_people {s : Se} (h : (setupE' s).2 = 0) : s.pe.length ≤ 20 := by
  unfold setupE' at h
  split at h
  · rename_i h1
    unfold peopleE at h1
    split at h1
    · omega
    · split at h1
      · cases h1
      · omega
  · rename_i h1; exact absurd h h1

set_option maxRecDepth 100000 in
set_option maxHeartbeats 4000000 in
theorem replay_any (s : Se) (m : Me) (B : Nat) (log : List (ByteArray × ByteArray)) (A : Option Addr) (c C : Nat) (w : World) (hs : SeOk s m B w) (hl : LogOk log A c C w) (hL : LibW w) (hQ : Quant w) (hT : Tz w) :
    Calls Tryz.prog 20 #[.agg (seC s m), .slice A log.length c] w fun e w' => ReplR s m B w.heap.size log e w' ∧ Below w.heap.size w w' := by
  have hb := hs.base
  have b0 := Blk.new w 33 (seC s m)
  have hB0 : Below w.heap.size w (w.alloc (.cells (seC s m) 33)) := (by repeat (first | (with_reducible exact Below.refl _ _) | (with_reducible assumption) | ((with_reducible refine Below.setCell ?_ ?_ _); rotate_left; · (first | exact Nat.le_refl _ | (simp; done) | (simp; omega) | omega)) | ((with_reducible refine Below.alloc ?_ ?_ _); rotate_left; · (first | exact Nat.le_refl _ | (simp; done) | (simp; omega) | omega)) | (with_reducible apply Below.drew) | (with_reducible apply below_drewN') | (refine Below.trans ?_ (Below.mono (by assumption) (by first | exact Nat.le_refl _ | (simp; done) | (simp; omega) | omega))) | exact Below.refl _ _ | assumption))
  have HBG := Lib.hid (begin_any s m B _ (hs.below hB0 hb) (hQ.below hB0 (Nat.le_refl _)))
  have HL := Lib.hid hL; have HQ := Lib.hid hQ; have HT := Lib.hid hT; have HLO := Lib.hid hl
  have hcap := hl.len
  have HE : Hid (replV s log = if (setupE' s).2 ≠ 0 then (in0, 0, (setupE' s).2) else if 60 < log.length then (in0, 0, 8) else runL s in0 log 0) := Lib.hid rfl
  have HPL : Hid ((setupE' s).2 = 0 → s.pe.length ≤ 20 ∧ TkFine s.tk) := Lib.hid fun h => ⟨setup_people h, setup_track h⟩
  clear hs hQ hL hT hl
  unfold ReplR
  generalize replV s log = RV at *
  obtain ⟨c0, c1, c2, c3, c4, c5, c6, c7, c8, c9, c10, c11, c12, cf⟩ := blk13 b0
  go_enter Tryz.func20, Tryz.ntmps20
  go_wp2_with fail
  refine HBG.out.mono ?_
  rintro e w1 ⟨hbg, hB1⟩
  clear c0 c1 c2 c3 c4 c5 c6 c7 c8 c9 c10 c11 c12 cf b0 HBG
  have hBB : Below w.heap.size w w1 := hB0.trans (hB1.mono (by simp))
  clear hB1
  have hN0 : w.heap.size ≤ (w.alloc (.cells (seC s m) 33)).heap.size := hB0.size
  generalize hNN : (w.alloc (.cells (seC s m) 33)).heap.size = base at *
  clear hNN hB0
  generalize (setupE' s).2 = se at *
  rcases hbg with ⟨h0, rfl⟩ | ⟨h0, bx, hbx, rfl, hI⟩
  · replace HE := Lib.hid (HE.out.trans (if_pos h0))
    have h1 : (se != 0) = true := by simpa using h0
    have H0 := Lib.hid h0; clear h0
    go_wp2
    go_ret3
    exact ⟨.inl (by rw [HE.out]; exact ⟨H0.out, rfl⟩), hBB⟩
  subst h0
  replace HE := Lib.hid (HE.out.trans (if_neg (by simp)))
  have HPT := Lib.hid (HPL.out rfl)
  have HI := Lib.hid hI; clear hI
  by_cases h60 : 60 < log.length
  · replace HE := Lib.hid (HE.out.trans (if_pos h60))
    have h1 : (60 : Int) < (log.length : Int) := by omega
    clear h60
    go_wp2
    go_ret3
    exact ⟨.inl (by rw [HE.out]; exact ⟨by decide, rfl⟩), hBB⟩
  replace HE := Lib.hid (HE.out.trans (if_neg h60))
  have h1 : ¬ ((60 : Int) < (log.length : Int)) := by omega
  have hlen : log.length ≤ 60 := by omega
  clear h60 hcap
  go_wp2
  clear h1
  go_loopw [25] (fun i wr => ∃ k : Nat, k ≤ log.length ∧ i = .int .i64 k ∧ (∃ a st, Hid (RV = runL s st (log.drop k) k) ∧ Hid (Isp s m B base bx a st wr)) ∧ Below w.heap.size w wr) (fun i _ => log.length - (intOf i).toNat)
  case atStart => exact ⟨0, Nat.zero_le _, rfl, ⟨_, _, Lib.hid (by rw [HE.out]; rfl), HI⟩, hBB⟩
  case round =>
    clear hBB HI
    obtain ⟨k, hk, rfl, ⟨a, st, HR, HI⟩, hBr⟩ := hrel
    by_cases hlt : k < log.length
    · obtain ⟨g, o, hA, hg, c0, c1⟩ := (HLO.out.below hBr HLO.out.base).row.at2 enF_len hlt rfl
      subst hA
      replace HR := Lib.hid (HR.out.trans (runL_drop hlt))
      have HSZ := Lib.hid (HLO.out.sz _ (List.getElem_mem hlt))
      generalize log[k] = x at *
      obtain ⟨xb, xt⟩ := x
      dsimp only at c0 c1 HR HSZ
      have hal : Gr wr (wr.alloc (.cells #[.string xb, .string xt] 36)) := (Below.refl _ _).alloc (Nat.le_refl _) _
      have hBa := hBr.trans (hal.mono hBr.size)
      have HEN := Lib.hid (enter_any s m B base bx a st xb xt _ (HI.out.below hal (Nat.le_refl _)) HPT.out.1 HSZ.out HPT.out.2 (HL.out.below hBa (Nat.le_refl _)) (HQ.out.below hBa (Nat.le_refl _)) (HT.out.below hBa (Nat.le_refl _)))
      have hgr : g < wr.heap.size := Nat.lt_of_lt_of_le hg (Nat.le_trans HLO.out.base hBr.size)
      clear hal HI
      go_wp2_with fail
      refine HEN.out.mono ?_
      rintro e w5 ⟨hR, hB5⟩
      obtain ⟨rfl, r1, r2⟩ := hR
      have hB6 := hBa.trans (hB5.mono hN0)
      have R2 := Lib.hid r2
      clear r1 r2 hB5 hBa HEN c0 c1
      generalize enterE s st xb xt = E at *
      by_cases hE : E = 0
      · subst hE
        obtain ⟨a', hI'⟩ := R2.out rfl
        replace HR := Lib.hid (HR.out.trans (if_pos rfl))
        have HI' := Lib.hid hI'; clear hI'
        go_wp2
        refine ⟨⟨k + 1, by omega, by go_num, ⟨a', _, HR, HI'⟩, hB6⟩, by simp [intOf]; omega⟩
      · replace HR := Lib.hid (HR.out.trans (if_neg hE))
        have h1 : (E != 0) = true := by simpa using hE
        have HEE := Lib.hid hE; clear hE
        go_wp2
        go_ret3
        exact ⟨.inl (by rw [HR.out]; exact ⟨HEE.out, rfl⟩), hB6⟩
    · obtain rfl : k = log.length := by omega
      have HX : Hid (RV = (st, 0, 0)) := Lib.hid (by rw [HR.out, List.drop_length]; rfl)
      go_wp2
      go_ret3
      exact ⟨.inr (by rw [HX.out]; exact ⟨rfl, base, bx, a, hN0, rfl, HI.out⟩), hBr⟩
end Go.Proofs.YtmdbpkomanhpoaaGreatDoor
