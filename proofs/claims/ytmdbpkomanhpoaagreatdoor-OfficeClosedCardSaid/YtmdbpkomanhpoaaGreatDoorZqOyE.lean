/- Brief logs; copies of logs. The state of a log, its open marks, its verdict, a further entry (office.StateOf, Undecided, Verdict, Accept). The law OfficeClosed: its walk. -/
import Derived.Test.YtmdbpkomanhpoaaGreatDoorZqOyB
import Derived.Test.YtmdbpkomanhpoaaGreatDoorZqOeQ
import Derived.Test.YtmdbpkomanhpoaaGreatDoorZqOsZ
import Derived.Test.YtmdbpkomanhpoaaGreatDoorZqOwA
import Derived.Test.YtmdbpkomanhpoaaGreatDoorZqOvG
import Derived.Test.YtmdbpkomanhpoaaGreatDoorZqOvH
import Derived.Test.YtmdbpkomanhpoaaGreatDoorZqOsY
namespace Go.Proofs.YtmdbpkomanhpoaaGreatDoor
open Go.RowKit Go.Lib

/-- What is so of brief logs. -/
structure BrOk (l : List (ByteArray × ByteArray)) : Prop where
  len : l.length ≤ 62
  sz : ∀ x ∈ l, x.1.size ≤ 20 ∧ x.2.size ≤ 90
def BrR (l : List (ByteArray × ByteArray)) (e : Ending) : Prop := ∃ b : Bool, e = .returned (.bool b) ∧ (b = true → BrOk l)
theorem BrR.no (l : List (ByteArray × ByteArray)) : BrR l (.returned (.bool false)) := ⟨false, rfl, fun h => by cases h⟩
theorem BrR.yes {l : List (ByteArray × ByteArray)} (h : BrOk l) : BrR l (.returned (.bool true)) := ⟨true, rfl, fun _ => h⟩
set_option maxRecDepth 100000 in
set_option maxHeartbeats 4000000 in
theorem brief_any (log : List (ByteArray × ByteArray)) (A : Option Addr) (c C : Nat) (w : World) (hR : Row w C 2 A log.length (rowsC enF log)) (hC : C ≤ w.heap.size) :
    Calls Tryz.prog 6 #[.slice A log.length c] w fun e w' => BrR log e ∧ Below w.heap.size w w' := by
  have HR := Lib.hid hR; clear hR
  by_cases hok : log.length ≤ 20 ∨ (61 ≤ log.length ∧ log.length ≤ 62)
  rotate_left
  · go_enter Tryz.func6, Tryz.ntmps6
    go_wp2
    all_goals first
      | (go_ret; exact ⟨BrR.no _, Below.refl _ _⟩)
      | (exfalso; refine hok ?_; omega)
  rcases hok with h1 | h1
  · have i1 := h1
    have i2 : (log.length : Int) ≤ 20 := by omega
    have n1 : decide ((20 : Int) < (log.length : Int)) = false := by simp; omega
    have n2 : decide ((62 : Int) < (log.length : Int)) = false := by simp; omega
    go_enter Tryz.func6, Tryz.ntmps6
    go_wp2
    clear n1 n2
    go_loopw [3] (fun i wr => ∃ k : Nat, k ≤ log.length ∧ i = .int .i64 k ∧ Hid (∀ j (h : j < log.length), j < k → log[j].1.size ≤ 20 ∧ log[j].2.size ≤ 90) ∧ Below w.heap.size w wr) (fun i _ => log.length - (intOf i).toNat)
    case atStart => exact ⟨0, Nat.zero_le _, rfl, Lib.hid (fun _ _ h => absurd h (by omega)), Below.refl _ _⟩
    case round =>
      obtain ⟨k, hk, rfl, HI, hBr⟩ := hrel
      by_cases hlt : k < log.length
      · obtain ⟨g, o, hA, hg, c0, c1⟩ := (HR.out.below hBr hC).at2 enF_len hlt rfl
        subst hA
        have HNX : Hid (log[k].1.size ≤ 20 → log[k].2.size ≤ 90 → ∀ j (h : j < log.length), j < k + 1 → log[j].1.size ≤ 20 ∧ log[j].2.size ≤ 90) := Lib.hid fun h h' j hj hjk => by
          by_cases e : j = k
          · subst e; exact ⟨h, h'⟩
          · exact HI.out j hj (by omega)
        clear HI
        generalize log[k] = p at *
        obtain ⟨pb, pt⟩ := p
        dsimp only at c0 c1 HNX
        by_cases hq : pb.size ≤ 20
        · have hq1 : (pb.size : Int) ≤ 20 := by omega
          have hq2 : decide ((20 : Int) < (pb.size : Int)) = false := by simp; omega
          by_cases hr : pt.size ≤ 90
          · have HX := Lib.hid (HNX.out hq hr)
            have hr1 : (pt.size : Int) ≤ 90 := by omega
            have hr2 : decide ((90 : Int) < (pt.size : Int)) = false := by simp; omega
            go_wp2
            refine ⟨⟨k + 1, by omega, by go_num, HX, hBr⟩, by simp [intOf]; omega⟩
          · have hr1 : (90 : Int) < (pt.size : Int) := by omega
            have hr2 : decide ((90 : Int) < (pt.size : Int)) = true := by simp; omega
            go_wp2
            go_ret
            exact ⟨BrR.no _, hBr⟩
        · have hq1 : (20 : Int) < (pb.size : Int) := by omega
          have hq2 : decide ((20 : Int) < (pb.size : Int)) = true := by simp; omega
          go_wp2
          go_ret
          exact ⟨BrR.no _, hBr⟩
      · obtain rfl : k = log.length := by omega
        have HX : Hid (BrOk log) := Lib.hid ⟨by omega, fun p hp => by
          obtain ⟨j, hj, rfl⟩ := List.getElem_of_mem hp
          exact HI.out j hj hj⟩
        go_wp2
        go_ret
        exact ⟨BrR.yes HX.out, hBr⟩
  · obtain ⟨i1, i1b⟩ := h1
    have i2 : (61 : Int) ≤ (log.length : Int) := by omega
    have i3 : (log.length : Int) ≤ 62 := by omega
    have n0 : decide ((20 : Int) < (log.length : Int)) = true := by simp; omega
    have n1 : decide ((log.length : Int) ≤ 60) = false := by simp; omega
    have n2 : decide ((62 : Int) < (log.length : Int)) = false := by simp; omega
    go_enter Tryz.func6, Tryz.ntmps6
    go_wp2
    clear n0 n1 n2
    go_loopw [3] (fun i wr => ∃ k : Nat, k ≤ log.length ∧ i = .int .i64 k ∧ Hid (∀ j (h : j < log.length), j < k → log[j].1.size ≤ 20 ∧ log[j].2.size ≤ 90) ∧ Below w.heap.size w wr) (fun i _ => log.length - (intOf i).toNat)
    case atStart => exact ⟨0, Nat.zero_le _, rfl, Lib.hid (fun _ _ h => absurd h (by omega)), Below.refl _ _⟩
    case round =>
      obtain ⟨k, hk, rfl, HI, hBr⟩ := hrel
      by_cases hlt : k < log.length
      · obtain ⟨g, o, hA, hg, c0, c1⟩ := (HR.out.below hBr hC).at2 enF_len hlt rfl
        subst hA
        have HNX : Hid (log[k].1.size ≤ 20 → log[k].2.size ≤ 90 → ∀ j (h : j < log.length), j < k + 1 → log[j].1.size ≤ 20 ∧ log[j].2.size ≤ 90) := Lib.hid fun h h' j hj hjk => by
          by_cases e : j = k
          · subst e; exact ⟨h, h'⟩
          · exact HI.out j hj (by omega)
        clear HI
        generalize log[k] = p at *
        obtain ⟨pb, pt⟩ := p
        dsimp only at c0 c1 HNX
        by_cases hq : pb.size ≤ 20
        · have hq1 : (pb.size : Int) ≤ 20 := by omega
          have hq2 : decide ((20 : Int) < (pb.size : Int)) = false := by simp; omega
          by_cases hr : pt.size ≤ 90
          · have HX := Lib.hid (HNX.out hq hr)
            have hr1 : (pt.size : Int) ≤ 90 := by omega
            have hr2 : decide ((90 : Int) < (pt.size : Int)) = false := by simp; omega
            go_wp2
            refine ⟨⟨k + 1, by omega, by go_num, HX, hBr⟩, by simp [intOf]; omega⟩
          · have hr1 : (90 : Int) < (pt.size : Int) := by omega
            have hr2 : decide ((90 : Int) < (pt.size : Int)) = true := by simp; omega
            go_wp2
            go_ret
            exact ⟨BrR.no _, hBr⟩
        · have hq1 : (20 : Int) < (pb.size : Int) := by omega
          have hq2 : decide ((20 : Int) < (pb.size : Int)) = true := by simp; omega
          go_wp2
          go_ret
          exact ⟨BrR.no _, hBr⟩
      · obtain rfl : k = log.length := by omega
        have HX : Hid (BrOk log) := Lib.hid ⟨by omega, fun p hp => by
          obtain ⟨j, hj, rfl⟩ := List.getElem_of_mem hp
          exact HI.out j hj hj⟩
        go_wp2
        go_ret
        exact ⟨BrR.yes HX.out, hBr⟩
theorem infoEn : (Tryz.prog.info? 36).map (fun i => (i.zero, i.size, i.bytes)) = some (some (.agg #[.string ⟨#[]⟩, .string ⟨#[]⟩]), 2, 32) := by kernel_rfl
theorem ens_one (l : List (ByteArray × ByteArray)) : ∀ u ∈ rowsC enF l, u.oneCell' = true := by
  intro u hu
  simp only [rowsC, List.mem_flatMap] at hu
  obtain ⟨p, _, hp⟩ := hu
  simp [enF] at hp
  rcases hp with rfl | rfl <;> rfl
set_option maxRecDepth 100000 in
set_option maxHeartbeats 1000000 in
theorem copyLog_any (l : List (ByteArray × ByteArray)) (A : Option Addr) (c : Nat) (w : World) (hS : Src w 2 A l.length c (rowsC enF l)) (hl : l.length ≤ 1000000) :
    Calls Tryz.prog 9 #[.slice A l.length c] w fun e w' => ∃ A' c', e = .returned (.slice A' l.length c') ∧ w'.ownsRow w.heap.size 36 2 (.slice A' l.length c') l.length (rowsC enF l) ∧ Below w.heap.size w w' := by
  obtain ⟨i0, hi, hz0, hz1, hz2⟩ := info_parts infoEn
  have own := own_empty w 36 2
  have hB3 : Below w.heap.size w (w.alloc (.cells #[] 36)) := (Below.refl _ _).alloc (Nat.le_refl _) _
  have hS2 : Src (w.alloc (.cells #[] 36)) 2 A l.length c (rowsC enF l) := hS.alloc _
  have HS := Lib.hid hS2; clear hS hS2
  go_enter Tryz.func9, Tryz.ntmps9
  go_wp2_with (at_builtin; refine wpList_append_row rfl _ _ 34 rfl w.heap.size 36 i0 _ 2 32 Tryz.underlying34 hi hz0 hz1 hz2 rfl (by decide) _ _ _ rfl own A l.length c (rowsC enF l) rfl HS.out (ens_one _) (by unfold maxLen; omega) (by omega) (by simp) ?_)
  intro v3 w3 own3 hgrow _
  have hB4 : Below w.heap.size w w3 := below_own hB3 (by omega) own hgrow
  try simp only [Nat.zero_add, List.nil_append] at own3
  obtain ⟨A3, c3, rfl, _, _, _⟩ := Row.ownd own3
  have HO := Lib.hid own3; clear own3
  go_wp2
  go_ret
  exact ⟨_, _, rfl, HO.out, hB4⟩
set_option maxRecDepth 100000 in
set_option maxHeartbeats 1000000 in
theorem light_any (s : Se) (m : Me) (B : Nat) (log : List (ByteArray × ByteArray)) (A : Option Addr) (c C : Nat) (w : World) (hp : Row w B 2 m.pA s.pe.length (rowsC peF s.pe)) (hs : Row w B 4 m.sA s.st.length (rowsC stF s.st)) (hB : B ≤ w.heap.size) (hR : Row w C 2 A log.length (rowsC enF log)) (hC : C ≤ w.heap.size) :
    Calls Tryz.prog 5 #[.agg (seC s m), .slice A log.length c] w fun e w' => (∃ b, e = .returned (.bool b) ∧ (b = true → SlOk s ∧ BrOk log)) ∧ Below w.heap.size w w' := by
  have b0 := Blk.new w 33 (seC s m)
  have hB0 : Below w.heap.size w (w.alloc (.cells (seC s m) 33)) := (Below.refl _ _).alloc (Nat.le_refl _) _
  have HSL := Lib.hid (slight_any s m B _ (hp.below hB0 hB) (hs.below hB0 hB) (Nat.le_trans hB hB0.size))
  have HR := Lib.hid hR
  clear hp hs hR
  obtain ⟨c0, c1, c2, c3, c4, c5, c6, c7, c8, c9, c10, c11, c12, cf⟩ := blk13 b0
  go_enter Tryz.func5, Tryz.ntmps5
  go_wp2_with fail
  refine HSL.out.mono ?_
  rintro e w1 ⟨⟨b, rfl, hb⟩, hB1⟩
  have hBB : Below w.heap.size w w1 := hB0.trans (hB1.mono (by simp))
  have HBI := Lib.hid hb
  clear c0 c1 c2 c3 c4 c5 c6 c7 c8 c9 c10 c11 c12 cf b0 hB0 hB1 hb HSL
  cases b
  · go_wp2
    go_ret
    exact ⟨⟨false, rfl, fun h => by cases h⟩, hBB⟩
  have HBR := Lib.hid (brief_any log A c C w1 (HR.out.below hBB hC) (Nat.le_trans hC hBB.size))
  go_wp2_with fail
  refine HBR.out.mono ?_
  rintro e w2 ⟨⟨b, rfl, hb⟩, hB2⟩
  have hB3 : Below w.heap.size w w2 := hBB.trans (hB2.mono hBB.size)
  have HB2 := Lib.hid hb
  clear hBB hB2 hb HBR
  cases b
  · go_wp2
    go_ret
    exact ⟨⟨false, rfl, fun h => by cases h⟩, hB3⟩
  · go_wp2
    go_ret
    exact ⟨⟨true, rfl, fun _ => ⟨HBI.out (by trivial), HB2.out (by trivial)⟩⟩, hB3⟩
end Go.Proofs.YtmdbpkomanhpoaaGreatDoor

namespace Go.Proofs.YtmdbpkomanhpoaaGreatDoor
open Go.RowKit Go.Lib

/-- What StateOf tells. -/
def StaR (R : In × Nat × Int) (e : Ending) : Prop := ∃ (A0 : Option Addr) (n0 c0 : Nat) (A1 : Option Addr) (n1 c1 : Nat) (A2 : Option Addr) (n2 c2 : Nat) (b : Bool), e = .returned (.tuple #[.agg #[.slice A0 n0 c0, .slice A1 n1 c1, .slice A2 n2 c2, .bool b], .int .i64 R.2.2]) ∧ (R.2.2 = 0 → b = R.1.cl)
set_option maxRecDepth 100000 in
set_option maxHeartbeats 4000000 in
theorem stateOf_any (s : Se) (m : Me) (B : Nat) (log : List (ByteArray × ByteArray)) (A : Option Addr) (c C : Nat) (w : World) (hs : SeOk s m B w) (hl : LogOk log A c C w) (hL : LibW w) (hQ : Quant w) (hT : Tz w) :
    Calls Tryz.prog 7 #[.agg (seC s m), .slice A log.length c] w fun e w' => StaR (replV s log) e ∧ Below w.heap.size w w' := by
  have hb := hs.base
  have bb := (Blk.new w 33 (seC s m)).alloc (.cells #[.slice none 0 0, .slice none 0 0, .slice none 0 0, .bool false] 44 (0, 0))
  have bz := Blk.new' (w.alloc (.cells (seC s m) 33)) 44 #[.slice none 0 0, .slice none 0 0, .slice none 0 0, .bool false] (g := w.heap.size + 1) (by simp)
  have hB0 : Below w.heap.size w ((w.alloc (.cells (seC s m) 33)).alloc (.cells #[.slice none 0 0, .slice none 0 0, .slice none 0 0, .bool false] 44)) := (by repeat (first | (with_reducible exact Below.refl _ _) | (with_reducible assumption) | ((with_reducible refine Below.setCell ?_ ?_ _); rotate_left; · (first | exact Nat.le_refl _ | (simp; done) | (simp; omega) | omega)) | ((with_reducible refine Below.alloc ?_ ?_ _); rotate_left; · (first | exact Nat.le_refl _ | (simp; done) | (simp; omega) | omega)) | (with_reducible apply Below.drew) | (with_reducible apply below_drewN') | (refine Below.trans ?_ (Below.mono (by assumption) (by first | exact Nat.le_refl _ | (simp; done) | (simp; omega) | omega))) | exact Below.refl _ _ | assumption))
  have HRP := Lib.hid (replay_any s m B log A c C _ (hs.below hB0 hb) (hl.below hB0 hl.base) (hL.below hB0 (Nat.le_refl _)) (hQ.below hB0 (Nat.le_refl _)) (hT.below hB0 (Nat.le_refl _)))
  clear hs hl hL hQ hT
  obtain ⟨c0, c1, c2, c3, c4, c5, c6, c7, c8, c9, c10, c11, c12, cf⟩ := blk13 bb
  have lbb := bb.lt
  go_enter Tryz.func7, Tryz.ntmps7
  go_wp2_with fail
  refine HRP.out.mono ?_
  rintro e w1 ⟨hR, hB1⟩
  replace bz := bz.below hB1 bz.lt
  have hBB : Below w.heap.size w w1 := hB0.trans (hB1.mono hB0.size)
  clear c0 c1 c2 c3 c4 c5 c6 c7 c8 c9 c10 c11 c12 cf bb lbb HRP hB0 hB1
  unfold ReplR at hR
  have HR := Lib.hid hR; clear hR
  obtain ⟨⟨st, n, E⟩, hRe⟩ : ∃ R, replV s log = R := ⟨_, rfl⟩
  rw [hRe] at HR
  have HRE := Lib.hid hRe; clear hRe
  have hR := HR.out; clear HR
  dsimp only at hR
  have HBZ := Lib.hid bz
  obtain ⟨z0, z1, z2, z3, zf⟩ := blk4 bz
  have lz := bz.lt
  clear bz
  rcases hR with ⟨h0, rfl⟩ | ⟨h0, base, bx, a, hN, rfl, hI⟩
  · have h1 : (E != 0) = true := by simpa using h0
    have H0 := Lib.hid h0; clear h0
    go_wp2
    have bzF : Blk _ _ 44 #[.slice none 0 0, .slice none 0 0, .slice none 0 0, .bool false] := (((HBZ.out.set_ 0 (.slice none 0 0)).set_ 1 (.slice none 0 0)).set_ 2 (.slice none 0 0)).set_ 3 (.bool false)
    have FB := Below.set4 hBB (g := w.heap.size + 1) (u0 := .slice none 0 0) (u1 := .slice none 0 0) (u2 := .slice none 0 0) (u3 := .bool false) (by omega)
    obtain ⟨y0, y1, y2, y3, yf⟩ := blk4 bzF
    refine bodyPost_ret (v := .tuple #[.agg #[.slice none 0 0, .slice none 0 0, .slice none 0 0, .bool false], .int .i64 E]) ?_ rfl ⟨by rw [HRE.out]; exact ⟨none, 0, 0, none, 0, 0, none, 0, 0, false, rfl, fun h => absurd h H0.out⟩, FB⟩
    simp [results, Tryz.results7, go_sem, y0, y1, y2, y3]
  · subst h0
    obtain ⟨c0, c1, c2, c3, c4, c5, c6, c7, c8, c9, c10, c11, c12, c13, c14, c15, c16, cf⟩ := blk17 hI.blk
    have lb := hI.blk.lt
    clear hI hN
    go_wp2
    have bzF : Blk _ _ 44 #[.slice a.eA st.ev.length a.ec, .slice a.sA st.sc.length a.sc, .slice a.mA st.ms.length a.mc, .bool st.cl] := (((HBZ.out.set_ 0 (.slice a.eA st.ev.length a.ec)).set_ 1 (.slice a.sA st.sc.length a.sc)).set_ 2 (.slice a.mA st.ms.length a.mc)).set_ 3 (.bool st.cl)
    have FB := Below.set4 hBB (g := w.heap.size + 1) (u0 := .slice a.eA st.ev.length a.ec) (u1 := .slice a.sA st.sc.length a.sc) (u2 := .slice a.mA st.ms.length a.mc) (u3 := .bool st.cl) (by omega)
    obtain ⟨y0, y1, y2, y3, yf⟩ := blk4 bzF
    refine bodyPost_ret (v := .tuple #[.agg #[.slice a.eA st.ev.length a.ec, .slice a.sA st.sc.length a.sc, .slice a.mA st.ms.length a.mc, .bool st.cl], .int .i64 0]) ?_ rfl ⟨by rw [HRE.out]; exact ⟨_, _, _, _, _, _, _, _, _, _, rfl, fun _ => rfl⟩, FB⟩
    simp [results, Tryz.results7, go_sem, y0, y1, y2, y3]
theorem any_no {α : Type} {P : α → Bool} {l : List α} (h : l.any P = false) {k : Nat} (hk : k < l.length) : P l[k] = false := by
  have := (List.any_eq_false.1 h) _ (List.getElem_mem hk)
  simpa using this
set_option maxRecDepth 100000 in
set_option maxHeartbeats 1000000 in
theorem names_none (s : Se) (m : Me) (B base bx : Nat) (a : Ia) (st : In) (w : World) (h : Isp s m B base bx a st w) (hN : st.ms.any openB = false) :
    Calls Tryz.prog 24 #[.pointer (some ⟨bx, 0, none⟩), .func (.func 25) #[] #[]] w fun e w' => e = .returned (.slice none 0 0) ∧ Below w.heap.size w w' := by
  have HR := Lib.hid (own_row_ h.ms)
  have hn := h.lim.ms
  have HF : Hid (∀ k (hk : k < st.ms.length), openB st.ms[k] = false) := Lib.hid fun k hk => any_no hN hk
  obtain ⟨c0, c1, c2, c3, c4, c5, c6, c7, c8, c9, c10, c11, c12, c13, c14, c15, c16, cf⟩ := blk17 h.blk
  have lb := h.blk.lt
  clear h hN c0 c1 c2 c3 c4 c5 c6 c7 c8 c9 c10 c11 c12 c13 c14 c16 cf
  go_enter Tryz.func24, Tryz.ntmps24
  go_wp2
  clear c15 lb
  go_loopw [5, 14] (fun o i wr => ∃ k : Nat, k ≤ st.ms.length ∧ i = .int .i64 k ∧ o = .slice none 0 0 ∧ Below w.heap.size w wr) (fun _ i _ => st.ms.length - (intOf i).toNat)
  case atStart => exact ⟨0, Nat.zero_le _, rfl, rfl, Below.refl _ _⟩
  case round =>
    obtain ⟨k, hk, rfl, rfl, hB'⟩ := hrel
    by_cases hlt : k < st.ms.length
    · obtain ⟨g, o, hA, hg, c0, c1, c2, c3, c4, c5, c6, c7, c8, c9, c10, c11, c12⟩ := (HR.out.below hB' (Nat.le_refl _)).at13 mkF_len hlt rfl
      rw [hA]
      have HS := Lib.hid (HF.out k hlt)
      generalize st.ms[k] = p at *
      obtain ⟨nm, bb, po, q, sta, row, dec, sec⟩ := p
      dsimp only at c0 c1 c2 c3 c4 c5 c6 c7 c8 c9 c10 c11 c12
      have bm := Blk.new wr 95 #[.string nm, .string bb, .int .i64 po, .int .i64 (q 0), .int .i64 (q 1), .int .i64 (q 2), .int .i64 (q 3), .int .i64 (q 4), .int .i64 (q 5), .int .i64 sta, .int .i64 row, .int .i64 dec, .string sec]
      have hBa : Below w.heap.size w (wr.alloc (.cells #[.string nm, .string bb, .int .i64 po, .int .i64 (q 0), .int .i64 (q 1), .int .i64 (q 2), .int .i64 (q 3), .int .i64 (q 4), .int .i64 (q 5), .int .i64 sta, .int .i64 row, .int .i64 dec, .string sec] 95)) := hB'.alloc hB'.size _
      obtain ⟨e0, e1, e2, e3, e4, e5, e6, e7, e8, e9, e10, e11, e12, ef⟩ := blk13 bm
      have lm := bm.lt
      have hgr : g < wr.heap.size := Nat.lt_of_lt_of_le hg hB'.size
      go_wp2_with fail
      refine (openMk_any ⟨nm, bb, po, q, sta, row, dec, sec⟩ _).mono ?_
      rw [HS.out]
      rintro e w5 ⟨rfl, hB5⟩
      have hB6 := hBa.trans (hB5.mono hBa.size)
      go_wp2
      refine ⟨⟨k + 1, by omega, by go_num, rfl, hB6⟩, by simp [intOf]; omega⟩
    · obtain rfl : k = st.ms.length := by omega
      go_wp2
      go_ret
      exact ⟨rfl, hB'⟩
set_option maxRecDepth 100000 in
set_option maxHeartbeats 4000000 in
theorem undecided_none (s : Se) (m : Me) (B : Nat) (log : List (ByteArray × ByteArray)) (A : Option Addr) (c C : Nat) (w : World) (hs : SeOk s m B w) (hl : LogOk log A c C w) (hL : LibW w) (hQ : Quant w) (hT : Tz w) (st : In) (hRV : replV s log = (st, 0, 0)) (hN : st.ms.any openB = false) :
    Calls Tryz.prog 11 #[.agg (seC s m), .slice A log.length c] w fun e w' => e = .returned (.tuple #[.slice none 0 0, .int .i64 0]) ∧ Below w.heap.size w w' := by
  have hb := hs.base
  have b0 := Blk.new w 33 (seC s m)
  have hB0 : Below w.heap.size w (w.alloc (.cells (seC s m) 33)) := (by repeat (first | (with_reducible exact Below.refl _ _) | (with_reducible assumption) | ((with_reducible refine Below.setCell ?_ ?_ _); rotate_left; · (first | exact Nat.le_refl _ | (simp; done) | (simp; omega) | omega)) | ((with_reducible refine Below.alloc ?_ ?_ _); rotate_left; · (first | exact Nat.le_refl _ | (simp; done) | (simp; omega) | omega)) | (with_reducible apply Below.drew) | (with_reducible apply below_drewN') | (refine Below.trans ?_ (Below.mono (by assumption) (by first | exact Nat.le_refl _ | (simp; done) | (simp; omega) | omega))) | exact Below.refl _ _ | assumption))
  have HRP := Lib.hid (replay_any s m B log A c C _ (hs.below hB0 hb) (hl.below hB0 hl.base) (hL.below hB0 (Nat.le_refl _)) (hQ.below hB0 (Nat.le_refl _)) (hT.below hB0 (Nat.le_refl _)))
  have HRV := Lib.hid hRV; have HN := Lib.hid hN
  clear hRV hN
  clear hs hl hL hQ hT
  obtain ⟨c0, c1, c2, c3, c4, c5, c6, c7, c8, c9, c10, c11, c12, cf⟩ := blk13 b0
  go_enter Tryz.func11, Tryz.ntmps11
  go_wp2_with fail
  refine HRP.out.mono ?_
  rintro e w1 ⟨hR, hB1⟩
  clear c0 c1 c2 c3 c4 c5 c6 c7 c8 c9 c10 c11 c12 cf b0 HRP
  have hBB : Below w.heap.size w w1 := hB0.trans (hB1.mono hB0.size)
  have hz := hB0.size
  clear hB1 hB0
  unfold ReplR at hR
  rw [HRV.out] at hR
  rcases hR with ⟨hbad, _⟩ | ⟨_, base, bx, a, hN, rfl, hI⟩
  · exact absurd rfl hbad
  have hbs : w.heap.size ≤ base := Nat.le_trans hz hN
  clear hN hz
  simp only at hI
  have HA := Lib.hid (names_none s m B base bx a st w1 hI HN.out)
  clear hI
  go_wp2_with fail
  refine HA.out.mono ?_
  rintro e w2 ⟨rfl, hB2⟩
  have hB3 : Below w.heap.size w w2 := hBB.trans (hB2.mono hBB.size)
  clear hB2 HA hBB
  go_wp2
  go_ret2
  exact ⟨rfl, hB3⟩
set_option maxRecDepth 100000 in
set_option maxHeartbeats 4000000 in
theorem verdictOf_right (s : Se) (m : Me) (B : Nat) (log : List (ByteArray × ByteArray)) (A : Option Addr) (c C : Nat) (w : World) (hs : SeOk s m B w) (hl : LogOk log A c C w) (hL : LibW w) (hQ : Quant w) (hT : Tz w) (st : In) (hRV : replV s log = (st, 0, 0)) :
    Calls Tryz.prog 12 #[.agg (seC s m), .slice A log.length c] w fun e w' => e = .returned (.tuple #[.int .i64 (verdV st), .int .i64 0]) ∧ Below w.heap.size w w' := by
  have hb := hs.base
  have b0 := Blk.new w 33 (seC s m)
  have hB0 : Below w.heap.size w (w.alloc (.cells (seC s m) 33)) := (by repeat (first | (with_reducible exact Below.refl _ _) | (with_reducible assumption) | ((with_reducible refine Below.setCell ?_ ?_ _); rotate_left; · (first | exact Nat.le_refl _ | (simp; done) | (simp; omega) | omega)) | ((with_reducible refine Below.alloc ?_ ?_ _); rotate_left; · (first | exact Nat.le_refl _ | (simp; done) | (simp; omega) | omega)) | (with_reducible apply Below.drew) | (with_reducible apply below_drewN') | (refine Below.trans ?_ (Below.mono (by assumption) (by first | exact Nat.le_refl _ | (simp; done) | (simp; omega) | omega))) | exact Below.refl _ _ | assumption))
  have HRP := Lib.hid (replay_any s m B log A c C _ (hs.below hB0 hb) (hl.below hB0 hl.base) (hL.below hB0 (Nat.le_refl _)) (hQ.below hB0 (Nat.le_refl _)) (hT.below hB0 (Nat.le_refl _)))
  have HRV := Lib.hid hRV
  clear hRV
  clear hs hl hL hQ hT
  obtain ⟨c0, c1, c2, c3, c4, c5, c6, c7, c8, c9, c10, c11, c12, cf⟩ := blk13 b0
  go_enter Tryz.func12, Tryz.ntmps12
  go_wp2_with fail
  refine HRP.out.mono ?_
  rintro e w1 ⟨hR, hB1⟩
  clear c0 c1 c2 c3 c4 c5 c6 c7 c8 c9 c10 c11 c12 cf b0 HRP
  have hBB : Below w.heap.size w w1 := hB0.trans (hB1.mono hB0.size)
  have hz := hB0.size
  clear hB1 hB0
  unfold ReplR at hR
  rw [HRV.out] at hR
  rcases hR with ⟨hbad, _⟩ | ⟨_, base, bx, a, hN, rfl, hI⟩
  · exact absurd rfl hbad
  have hbs : w.heap.size ≤ base := Nat.le_trans hz hN
  clear hN hz
  simp only at hI
  have HA := Lib.hid (verdict_any s m B base bx a st w1 hI)
  clear hI
  go_wp2_with fail
  refine HA.out.mono ?_
  rintro e w2 ⟨rfl, hB2⟩
  have hB3 : Below w.heap.size w w2 := hBB.trans (hB2.mono hBB.size)
  clear hB2 HA hBB
  go_wp2
  go_ret2
  exact ⟨rfl, hB3⟩
theorem repl_setup {s : Se} {log : List (ByteArray × ByteArray)} {st : In} (h : replV s log = (st, 0, 0)) : (setupE' s).2 = 0 := by
  unfold replV at h
  split at h
  · rename_i h1
    exact absurd (congrArg (fun r => r.2.2) h) h1
  · rename_i h1
    simpa using h1
set_option maxRecDepth 100000 in
set_option maxHeartbeats 4000000 in
/-- A closed inspection takes no further entry. -/
theorem accept_closed (s : Se) (m : Me) (B : Nat) (log : List (ByteArray × ByteArray)) (A : Option Addr) (c C : Nat) (xb xt : ByteArray) (w : World) (hs : SeOk s m B w) (hl : LogOk log A c C w) (hL : LibW w) (hQ : Quant w) (hT : Tz w) (hxt : xt.size ≤ 1000000) (st : In) (hRV : replV s log = (st, 0, 0)) (hcl : st.cl = true) :
    Calls Tryz.prog 13 #[.agg (seC s m), .slice A log.length c, .agg #[.string xb, .string xt]] w fun e w' => (∃ E : Int, E ≠ 0 ∧ e = .returned (.tuple #[.slice none 0 0, .int .i64 E])) ∧ Below w.heap.size w w' := by
  have hb := hs.base
  have b0 := (Blk.new w 33 (seC s m)).alloc (.cells #[.string xb, .string xt] 36 (0, 0))
  have bxe := Blk.new' (w.alloc (.cells (seC s m) 33)) 36 #[.string xb, .string xt] (g := w.heap.size + 1) (by simp)
  have hB0 : Below w.heap.size w ((w.alloc (.cells (seC s m) 33)).alloc (.cells #[.string xb, .string xt] 36)) := (by repeat (first | (with_reducible exact Below.refl _ _) | (with_reducible assumption) | ((with_reducible refine Below.setCell ?_ ?_ _); rotate_left; · (first | exact Nat.le_refl _ | (simp; done) | (simp; omega) | omega)) | ((with_reducible refine Below.alloc ?_ ?_ _); rotate_left; · (first | exact Nat.le_refl _ | (simp; done) | (simp; omega) | omega)) | (with_reducible apply Below.drew) | (with_reducible apply below_drewN') | (refine Below.trans ?_ (Below.mono (by assumption) (by first | exact Nat.le_refl _ | (simp; done) | (simp; omega) | omega))) | exact Below.refl _ _ | assumption))
  have HRP := Lib.hid (replay_any s m B log A c C _ (hs.below hB0 hb) (hl.below hB0 hl.base) (hL.below hB0 (Nat.le_refl _)) (hQ.below hB0 (Nat.le_refl _)) (hT.below hB0 (Nat.le_refl _)))
  have HRV := Lib.hid hRV
  have HL := Lib.hid hL; have HQ := Lib.hid hQ; have HT := Lib.hid hT; have HCL := Lib.hid (enter_closed (s := s) xb xt hcl); have HXT := Lib.hid hxt
  have hcap := hl.len
  have hPS := repl_setup hRV
  have HPL := Lib.hid (And.intro (setup_people hPS) (setup_track hPS))
  clear hRV hcl hPS hxt
  clear hs hl hL hQ hT
  obtain ⟨c0, c1, c2, c3, c4, c5, c6, c7, c8, c9, c10, c11, c12, cf⟩ := blk13 b0
  go_enter Tryz.func13, Tryz.ntmps13
  go_wp2_with fail
  refine HRP.out.mono ?_
  rintro e w1 ⟨hR, hB1⟩
  clear c0 c1 c2 c3 c4 c5 c6 c7 c8 c9 c10 c11 c12 cf b0 HRP
  replace bxe := bxe.below hB1 bxe.lt
  have hBB : Below w.heap.size w w1 := hB0.trans (hB1.mono hB0.size)
  have hz := hB0.size
  clear hB1 hB0
  unfold ReplR at hR
  rw [HRV.out] at hR
  rcases hR with ⟨hbad, _⟩ | ⟨_, base, bx, a, hN, rfl, hI⟩
  · exact absurd rfl hbad
  have hbs : w.heap.size ≤ base := Nat.le_trans hz hN
  clear hN hz
  simp only at hI
  obtain ⟨x0, x1, xf⟩ := blk2_ bxe
  have lx := bxe.lt
  have HI := Lib.hid hI; clear hI
  by_cases h60 : log.length = 60
  · have h1 : ((log.length : Int) == 60) = true := by simp; omega
    go_wp2
    go_ret2
    exact ⟨⟨_, by decide, rfl⟩, hBB⟩
  have h1 : ((log.length : Int) == 60) = false := by simp; omega
  have HEN := Lib.hid (enter_any s m B base bx a st xb xt w1 HI.out HPL.out.1 HXT.out HPL.out.2 (HL.out.below hBB (Nat.le_refl _)) (HQ.out.below hBB (Nat.le_refl _)) (HT.out.below hBB (Nat.le_refl _)))
  go_wp2_with fail
  refine HEN.out.mono ?_
  rintro e w5 ⟨hR, hB5⟩
  obtain ⟨rfl, _, _⟩ := hR
  have hB6 := hBB.trans (hB5.mono hbs)
  have h2 : (enterE s st xb xt != 0) = true := by simpa using HCL.out
  generalize enterE s st xb xt = E at *
  go_wp2
  go_ret2
  exact ⟨⟨_, HCL.out, rfl⟩, hB6⟩
end Go.Proofs.YtmdbpkomanhpoaaGreatDoor

namespace Go.Proofs.YtmdbpkomanhpoaaGreatDoor
open Go.RowKit Go.Lib

theorem run_zero {s : Se} : ∀ (l : List (ByteArray × ByteArray)) (st : In) (k : Nat), (runL s st l k).2.2 = 0 → (runL s st l k).2.1 = 0
  | [], _, _, _ => rfl
  | x :: l, st, k, h => by
    unfold runL at h ⊢
    by_cases he : enterE s st x.1 x.2 = 0
    · rw [if_pos he] at h ⊢
      exact run_zero l _ _ h
    · rw [if_neg he] at h
      exact absurd h he
theorem repl_zero {s : Se} {log : List (ByteArray × ByteArray)} (h : (replV s log).2.2 = 0) : replV s log = ((replV s log).1, 0, 0) := by
  have h1 : (replV s log).2.1 = 0 := by
    unfold replV at h ⊢
    split at h
    · rename_i h1; exact absurd h h1
    split at h
    · cases h
    rename_i h2 h3
    rw [if_neg h2, if_neg h3]
    exact run_zero log in0 0 h
  generalize replV s log = R at *
  obtain ⟨a, b, c⟩ := R
  dsimp only at h h1
  rw [h, h1]
theorem SeOk.gr_ {s : Se} {m : Me} {B : Nat} {w w' : World} (h : SeOk s m B w) (hg : Gr w w') : SeOk s m B w' := h.below hg h.base
theorem len_nil {α : Type} {l : List α} (h : l = []) : l.length = 0 := by rw [h]; rfl
set_option maxRecDepth 100000 in
set_option maxHeartbeats 8000000 in
theorem officeClosed_any (s : Se) (m : Me) (B : Nat) (log : List (ByteArray × ByteArray)) (A : Option Addr) (c C : Nat) (xb xt : ByteArray) (w : World) (h : SeRaw s m B w) (hR : Row w C 2 A log.length (rowsC enF log)) (hC : C ≤ w.heap.size) (hA : A = none → c = 0) (hL : LibW w) (hQ : Quant w) (hT : Tz w) (hW : WordsW w) :
    Calls Tryz.prog 3 #[.agg (seC s m), .slice A log.length c, .agg #[.string xb, .string xt]] w fun e w' => e = .returned (.bool true) ∧ Below w.heap.size w w' := by
  have HR := Lib.hid h; have HB := Lib.hid h.base; have HRW := Lib.hid hR; have HSR := Lib.hid (And.intro hA hC)
  have HF : Hid (∀ W, Below w.heap.size w W → LibW W ∧ Quant W ∧ Tz W ∧ WordsW W) := Lib.hid fun W h => ⟨hL.below h (Nat.le_refl _), hQ.below h (Nat.le_refl _), hT.below h (Nat.le_refl _), hW.below h (Nat.le_refl _)⟩
  have b0 := (Blk.new w 33 (seC s m)).alloc (.cells #[.string xb, .string xt] 36 (0, 0))
  have bx := Blk.new' (w.alloc (.cells (seC s m) 33)) 36 #[.string xb, .string xt] (g := w.heap.size + 1) (by simp)
  have hB0 : Below w.heap.size w ((w.alloc (.cells (seC s m) 33)).alloc (.cells #[.string xb, .string xt] 36)) := (by repeat (first | (with_reducible exact Below.refl _ _) | (with_reducible assumption) | ((with_reducible refine Below.setCell ?_ ?_ _); rotate_left; · (first | exact Nat.le_refl _ | (simp; done) | (simp; omega) | omega)) | ((with_reducible refine Below.alloc ?_ ?_ _); rotate_left; · (first | exact Nat.le_refl _ | (simp; done) | (simp; omega) | omega)) | (with_reducible apply Below.drew) | (with_reducible apply below_drewN') | (refine Below.trans ?_ (Below.mono (by assumption) (by first | exact Nat.le_refl _ | (simp; done) | (simp; omega) | omega))) | exact Below.refl _ _ | assumption))
  have HAW := Lib.hid (awake10_any _ (HF.out _ hB0).1 (HF.out _ hB0).2.1 (HF.out _ hB0).2.2.1 (HF.out _ hB0).2.2.2)
  clear h hR hA hC hL hQ hT hW
  go_enter Tryz.func3, Tryz.ntmps3
  go_wp2_with fail
  refine HAW.out.mono ?_
  rintro e w1 ⟨rfl, hB1⟩
  have hBB : Below w.heap.size w w1 := hB0.trans (hB1.mono hB0.size)
  replace b0 := b0.below hB1 b0.lt
  replace bx := bx.below hB1 bx.lt
  clear hB0 hB1 HAW
  have HLI := Lib.hid (light_any s m B log A c C w1 (HR.out.pe.below hBB HB.out) (HR.out.st.below hBB HB.out) (Nat.le_trans HB.out hBB.size) (HRW.out.below hBB HSR.out.2) (Nat.le_trans HSR.out.2 hBB.size))
  obtain ⟨c0, c1, c2, c3, c4, c5, c6, c7, c8, c9, c10, c11, c12, cf⟩ := blk13 b0
  have l0 := b0.lt
  go_wp2_with fail
  refine HLI.out.mono ?_
  rintro e w2 ⟨⟨b, rfl, hb⟩, hB2⟩
  replace b0 := b0.below hB2 b0.lt
  replace bx := bx.below hB2 bx.lt
  replace hBB : Below w.heap.size w w2 := hBB.trans (hB2.mono hBB.size)
  clear c0 c1 c2 c3 c4 c5 c6 c7 c8 c9 c10 c11 c12 cf l0 hB2 HLI
  cases b
  · clear hb
    go_wp2
    go_ret
    exact ⟨rfl, hBB⟩
  have HLB := Lib.hid (hb rfl)
  clear hb
  obtain ⟨x0, x1, xf⟩ := blk2_ bx
  have lx := bx.lt
  have be := Blk.new w2 36 #[.string xb, .string xt]
  have hB3 := hBB.alloc hBB.size (.cells #[.string xb, .string xt] 36 (0, 0))
  have HBR := Lib.hid (brief_any [(xb, xt)] (some ⟨w2.heap.size, 0, none⟩) 1 _ _ (rowOfB be rfl) (Nat.le_refl _))
  clear be
  go_wp2_with fail
  refine HBR.out.mono ?_
  rintro e w3 ⟨⟨b, rfl, hb⟩, hB4⟩
  replace b0 := (b0.alloc (.cells #[.string xb, .string xt] 36 (0, 0))).below hB4 (b0.alloc (.cells #[.string xb, .string xt] 36 (0, 0))).lt
  replace bx := (bx.alloc (.cells #[.string xb, .string xt] 36 (0, 0))).below hB4 (bx.alloc (.cells #[.string xb, .string xt] 36 (0, 0))).lt
  replace hBB : Below w.heap.size w w3 := hB3.trans (hB4.mono hB3.size)
  clear x0 x1 xf lx hB3 hB4 HBR
  cases b
  · clear hb
    go_wp2
    go_ret
    exact ⟨rfl, hBB⟩
  have HXT : Hid (xt.size ≤ 1000000) := Lib.hid (Nat.le_trans ((hb rfl).sz (xb, xt) (List.mem_singleton.2 rfl)).2 (by decide))
  clear hb
  have hSO := HR.out.ok HLB.out.1
  have HLG := Lib.hid HLB.out.2
  have HCS : Hid (∀ W, Below w.heap.size w W → Calls Tryz.prog 8 #[.agg (seC s m)] W fun e w' => ∃ (q : List St) (m' : Me), e = .returned (.agg (seC ⟨s.pe, s.cd, s.thick, q, s.tk, s.gf, s.gt, s.lv⟩ m')) ∧ Alike s.st q ∧
      SeOk ⟨s.pe, s.cd, s.thick, q, s.tk, s.gf, s.gt, s.lv⟩ m' w'.heap.size w' ∧ SeNil ⟨s.pe, s.cd, s.thick, q, s.tk, s.gf, s.gt, s.lv⟩ m' ∧ Below W.heap.size W w') := Lib.hid fun W hW => copySetup_any s m B W (hSO.1.below hW HB.out) hSO.2
  have HCL : Hid (∀ W, Below w.heap.size w W → Calls Tryz.prog 9 #[.slice A log.length c] W fun e w' => ∃ A' c', e = .returned (.slice A' log.length c') ∧ w'.ownsRow W.heap.size 36 2 (.slice A' log.length c') log.length (rowsC enF log) ∧ Below W.heap.size W w') := Lib.hid fun W hW => copyLog_any log A c W (Src.mk (HRW.out.below hW HSR.out.2) HSR.out.1) (Nat.le_trans HLG.out.len (by decide))
  have HOK : Hid (∀ (q : List St) (m' : Me) (A' : Option Addr) (c' : Nat) (W1 W2 : World), Alike s.st q → SeOk ⟨s.pe, s.cd, s.thick, q, s.tk, s.gf, s.gt, s.lv⟩ m' W1.heap.size W1 → W2.ownsRow W1.heap.size 36 2 (.slice A' log.length c') log.length (rowsC enF log) → Below W1.heap.size W1 W2 →
      SeOk ⟨s.pe, s.cd, s.thick, q, s.tk, s.gf, s.gt, s.lv⟩ m' W1.heap.size W2 ∧ LogOk log A' c' W2.heap.size W2 ∧ replV ⟨s.pe, s.cd, s.thick, q, s.tk, s.gf, s.gt, s.lv⟩ log = replV s log) := Lib.hid fun q m' A' c' W1 W2 h1 h2 h3 h4 =>
    ⟨h2.below h4 (Nat.le_refl _), ⟨own_row_ h3, Nat.le_refl _, fun x hx => Nat.le_trans (HLG.out.sz x hx).2 (by decide), Nat.le_trans HLG.out.len (by decide)⟩, replV_alike h1 log⟩
  have HV : Hid (∀ q, Alike s.st q → replV ⟨s.pe, s.cd, s.thick, q, s.tk, s.gf, s.gt, s.lv⟩ log = replV s log) := Lib.hid fun q h => replV_alike h log
  have HRZ : Hid ((replV s log).2.2 = 0 → replV s log = ((replV s log).1, 0, 0)) := Lib.hid repl_zero
  have HRD : Hid ((replV s log).2.2 = 0 → (replV s log).1.cl = true → DoneS s (replV s log).1) := Lib.hid repl_done
  clear hSO HLB
  generalize replV s log = R at *
  obtain ⟨st, n, E⟩ := R
  dsimp only at HRZ HRD
  -- StateOf
  obtain ⟨c0, c1, c2, c3, c4, c5, c6, c7, c8, c9, c10, c11, c12, cf⟩ := blk13 b0
  have l0 := b0.lt
  go_wp2_with fail
  refine (HCS.out w3 hBB).mono ?_
  rintro e w4 ⟨q1, m1, rfl, hal1, hs1, _, hB1⟩
  have hB2 : Below w.heap.size w w4 := hBB.trans (hB1.mono hBB.size)
  clear c0 c1 c2 c3 c4 c5 c6 c7 c8 c9 c10 c11 c12 cf l0
  go_wp2_with fail
  refine (HCL.out w4 hB2).mono ?_
  rintro e w5 ⟨A1, k1, rfl, own1, hB3⟩
  have hB4 : Below w.heap.size w w5 := hB2.trans (hB3.mono hB2.size)
  have HX := Lib.hid (HOK.out q1 m1 A1 k1 w4 w5 hal1 hs1 own1 hB3)
  have HFN := Lib.hid (by have := stateOf_any ⟨s.pe, s.cd, s.thick, q1, s.tk, s.gf, s.gt, s.lv⟩ m1 w4.heap.size log A1 k1 _ w5 HX.out.1 HX.out.2.1 (HF.out w5 hB4).1 (HF.out w5 hB4).2.1 (HF.out w5 hB4).2.2.1; rw [HX.out.2.2] at this; exact this)
  clear hal1 hs1 own1 HX
  go_wp2_with fail
  refine HFN.out.mono ?_
  rintro e w6 ⟨⟨Ae, ne, ce, As, ns, cs, Am, nm, cm, b, rfl, hb⟩, hB5⟩
  replace b0 := ((b0.below hB1 b0.lt).below hB3 (Nat.lt_of_lt_of_le b0.lt hB1.size)).below hB5 (Nat.lt_of_lt_of_le (Nat.lt_of_lt_of_le b0.lt hB1.size) hB3.size)
  replace bx := ((bx.below hB1 bx.lt).below hB3 (Nat.lt_of_lt_of_le bx.lt hB1.size)).below hB5 (Nat.lt_of_lt_of_le (Nat.lt_of_lt_of_le bx.lt hB1.size) hB3.size)
  replace hBB : Below w.heap.size w w6 := hB4.trans (hB5.mono hB4.size)
  clear hB1 hB2 hB3 hB4 hB5 HFN
  dsimp only at hb
  have HE := Lib.hid hb
  clear hb
  by_cases hE : E = 0
  rotate_left
  · have h1 : (E != 0) = true := by simpa using hE
    clear hE
    have hB6 := hBB.alloc hBB.size (.cells #[.slice Ae ne ce, .slice As ns cs, .slice Am nm cm, .bool b] 44 (0, 0))
    go_wp2
    go_ret
    exact ⟨rfl, hB6⟩
  subst hE
  obtain rfl := HE.out rfl
  obtain ⟨cl, hcl⟩ : ∃ cl, st.cl = cl := ⟨_, rfl⟩
  have HCL2 := Lib.hid hcl
  rw [hcl]
  clear hcl HE
  have bs := Blk.new w6 44 #[.slice Ae ne ce, .slice As ns cs, .slice Am nm cm, .bool cl]
  have hB6 := hBB.alloc hBB.size (.cells #[.slice Ae ne ce, .slice As ns cs, .slice Am nm cm, .bool cl] 44 (0, 0))
  replace b0 := b0.alloc (.cells #[.slice Ae ne ce, .slice As ns cs, .slice Am nm cm, .bool cl] 44 (0, 0))
  replace bx := bx.alloc (.cells #[.slice Ae ne ce, .slice As ns cs, .slice Am nm cm, .bool cl] 44 (0, 0))
  obtain ⟨z0, z1, z2, z3, zf⟩ := blk4 bs
  have lz := bs.lt
  cases cl
  · clear b0 bx bs
    go_wp2
    go_ret
    exact ⟨rfl, hB6⟩
  have HD := Lib.hid (HRD.out rfl HCL2.out)
  have HZ := Lib.hid (HRZ.out rfl)
  replace hBB := hB6
  clear bs hB6 HRD HRZ
  obtain ⟨c0, c1, c2, c3, c4, c5, c6, c7, c8, c9, c10, c11, c12, cf⟩ := blk13 b0
  have l0 := b0.lt
  generalize hW6 : w6.alloc (.cells #[.slice Ae ne ce, .slice As ns cs, .slice Am nm cm, .bool true] 44) = w7 at *
  go_upto_region 8 with fail
  clear hW6 z0 z1 z2 z3 zf lz c0 c1 c2 c3 c4 c5 c6 c7 c8 c9 c10 c11 c12 cf l0
  -- AnewOf
  obtain ⟨c0, c1, c2, c3, c4, c5, c6, c7, c8, c9, c10, c11, c12, cf⟩ := blk13 b0
  have l0 := b0.lt
  go_wp2_with fail
  refine (HCS.out w7 hBB).mono ?_
  rintro e w8 ⟨q2, m2, rfl, hal2, hs2, _, hB1⟩
  have hB2 : Below w.heap.size w w8 := hBB.trans (hB1.mono hBB.size)
  clear c0 c1 c2 c3 c4 c5 c6 c7 c8 c9 c10 c11 c12 cf l0
  go_wp2_with fail
  refine (HCL.out w8 hB2).mono ?_
  rintro e w9 ⟨A2, k2, rfl, own2, hB3⟩
  have hB4 : Below w.heap.size w w9 := hB2.trans (hB3.mono hB2.size)
  have HX := Lib.hid (HOK.out q2 m2 A2 k2 w8 w9 hal2 hs2 own2 hB3)
  have HFN := Lib.hid (by have := anewOf_right ⟨s.pe, s.cd, s.thick, q2, s.tk, s.gf, s.gt, s.lv⟩ m2 w8.heap.size log A2 k2 _ w9 HX.out.1 HX.out.2.1 (HF.out w9 hB4).1 (HF.out w9 hB4).2.1 (HF.out w9 hB4).2.2.1 st (HX.out.2.2.trans HZ.out); rw [len_nil HD.out.1] at this; exact this)
  clear hal2 hs2 own2 HX
  go_wp2_with fail
  refine HFN.out.mono ?_
  rintro e w10 ⟨v2, rfl, hv2, hB5⟩
  replace b0 := ((b0.below hB1 b0.lt).below hB3 (Nat.lt_of_lt_of_le b0.lt hB1.size)).below hB5 (Nat.lt_of_lt_of_le (Nat.lt_of_lt_of_le b0.lt hB1.size) hB3.size)
  replace bx := ((bx.below hB1 bx.lt).below hB3 (Nat.lt_of_lt_of_le bx.lt hB1.size)).below hB5 (Nat.lt_of_lt_of_le (Nat.lt_of_lt_of_le bx.lt hB1.size) hB3.size)
  replace hBB : Below w.heap.size w w10 := hB4.trans (hB5.mono hB4.size)
  clear hB1 hB2 hB3 hB4 hB5 HFN
  obtain ⟨A7, c7, rfl, _, _, _⟩ := Row.ownd hv2
  clear hv2
  -- Undecided
  obtain ⟨c0, c1, c2, c3, c4, c5, c6, c7, c8, c9, c10, c11, c12, cf⟩ := blk13 b0
  have l0 := b0.lt
  go_wp2_with fail
  refine (HCS.out w10 hBB).mono ?_
  rintro e w11 ⟨q3, m3, rfl, hal3, hs3, _, hB1⟩
  have hB2 : Below w.heap.size w w11 := hBB.trans (hB1.mono hBB.size)
  clear c0 c1 c2 c3 c4 c5 c6 c7 c8 c9 c10 c11 c12 cf l0
  go_wp2_with fail
  refine (HCL.out w11 hB2).mono ?_
  rintro e w12 ⟨A3, k3, rfl, own3, hB3⟩
  have hB4 : Below w.heap.size w w12 := hB2.trans (hB3.mono hB2.size)
  have HX := Lib.hid (HOK.out q3 m3 A3 k3 w11 w12 hal3 hs3 own3 hB3)
  have HFN := Lib.hid (undecided_none ⟨s.pe, s.cd, s.thick, q3, s.tk, s.gf, s.gt, s.lv⟩ m3 w11.heap.size log A3 k3 _ w12 HX.out.1 HX.out.2.1 (HF.out w12 hB4).1 (HF.out w12 hB4).2.1 (HF.out w12 hB4).2.2.1 st (HX.out.2.2.trans HZ.out) HD.out.2.1)
  clear hal3 hs3 own3 HX
  go_wp2_with fail
  refine HFN.out.mono ?_
  rintro e w13 ⟨rfl, hB5⟩
  replace b0 := ((b0.below hB1 b0.lt).below hB3 (Nat.lt_of_lt_of_le b0.lt hB1.size)).below hB5 (Nat.lt_of_lt_of_le (Nat.lt_of_lt_of_le b0.lt hB1.size) hB3.size)
  replace bx := ((bx.below hB1 bx.lt).below hB3 (Nat.lt_of_lt_of_le bx.lt hB1.size)).below hB5 (Nat.lt_of_lt_of_le (Nat.lt_of_lt_of_le bx.lt hB1.size) hB3.size)
  replace hBB : Below w.heap.size w w13 := hB4.trans (hB5.mono hB4.size)
  clear hB1 hB2 hB3 hB4 hB5 HFN
  -- Verdict
  obtain ⟨c0, c1, c2, c3, c4, c5, c6, c7, c8, c9, c10, c11, c12, cf⟩ := blk13 b0
  have l0 := b0.lt
  go_wp2_with fail
  refine (HCS.out w13 hBB).mono ?_
  rintro e w14 ⟨q4, m4, rfl, hal4, hs4, _, hB1⟩
  have hB2 : Below w.heap.size w w14 := hBB.trans (hB1.mono hBB.size)
  clear c0 c1 c2 c3 c4 c5 c6 c7 c8 c9 c10 c11 c12 cf l0
  go_wp2_with fail
  refine (HCL.out w14 hB2).mono ?_
  rintro e w15 ⟨A4, k4, rfl, own4, hB3⟩
  have hB4 : Below w.heap.size w w15 := hB2.trans (hB3.mono hB2.size)
  have HX := Lib.hid (HOK.out q4 m4 A4 k4 w14 w15 hal4 hs4 own4 hB3)
  have HFN := Lib.hid (by have := verdictOf_right ⟨s.pe, s.cd, s.thick, q4, s.tk, s.gf, s.gt, s.lv⟩ m4 w14.heap.size log A4 k4 _ w15 HX.out.1 HX.out.2.1 (HF.out w15 hB4).1 (HF.out w15 hB4).2.1 (HF.out w15 hB4).2.2.1 st (HX.out.2.2.trans HZ.out); rw [HD.out.2.2] at this; exact this)
  clear hal4 hs4 own4 HX
  go_wp2_with fail
  refine HFN.out.mono ?_
  rintro e w16 ⟨rfl, hB5⟩
  replace b0 := ((b0.below hB1 b0.lt).below hB3 (Nat.lt_of_lt_of_le b0.lt hB1.size)).below hB5 (Nat.lt_of_lt_of_le (Nat.lt_of_lt_of_le b0.lt hB1.size) hB3.size)
  replace bx := ((bx.below hB1 bx.lt).below hB3 (Nat.lt_of_lt_of_le bx.lt hB1.size)).below hB5 (Nat.lt_of_lt_of_le (Nat.lt_of_lt_of_le bx.lt hB1.size) hB3.size)
  replace hBB : Below w.heap.size w w16 := hB4.trans (hB5.mono hB4.size)
  clear hB1 hB2 hB3 hB4 hB5 HFN
  go_upto_region 11 with fail
  refine wp_region_w (fun w' => Below w.heap.size w w' ∧ Blk w' w.heap.size 33 (seC s m) ∧ Blk w' (w.heap.size + 1) 36 #[.string xb, .string xt]) (by kernel_rfl) ((And.intro hBB.drew (And.intro b0.drew bx.drew))) ?_
  refine wpW_det (t' := ?ct0R1) 0 (by rfl) (by kernel_rfl) (NQ_free _) (by kernel_rfl) ?cw0R1 ?ch0R1 ?ca0R1 (Eq.refl _) ?cH0R1
  case cw0R1 => (go_simp; done)
  case ch0R1 =>
    intro ds w' hS K hK
    obtain ⟨c0, c1, c2, c3, c4, c5, c6, c7, c8, c9, c10, c11, c12, cf⟩ := blk13 hS.2.1
    obtain ⟨x0, x1, xf⟩ := blk2_ hS.2.2
    have l0 := hS.2.1.lt
    have lx := hS.2.2.lt
    go_simp
    try go_bits
    exact hK _ hS (Gr.refl _)
  case ca0R1 => (first | (simp [Act.put]; done) | (simp [Act.put, *]; done))
  try dsimp only
  refine wpW_det (t' := ?ct2R1) 2 (by rfl) (by kernel_rfl) (NQ_free _) (by kernel_rfl) ?cw2R1 ?ch2R1 ?ca2R1 (Eq.refl _) ?cH2R1
  case cw2R1 => (go_simp; done)
  case ch2R1 =>
    intro ds w' hS K hK
    obtain ⟨c0, c1, c2, c3, c4, c5, c6, c7, c8, c9, c10, c11, c12, cf⟩ := blk13 hS.2.1
    obtain ⟨x0, x1, xf⟩ := blk2_ hS.2.2
    have l0 := hS.2.1.lt
    have lx := hS.2.2.lt
    go_simp
    try go_bits
    exact hK _ hS (Gr.refl _)
  case ca2R1 => (first | (simp [Act.put]; done) | (simp [Act.put, *]; done))
  try dsimp only
  refine wpW_det (t' := ?ct4R1) 4 (by rfl) (by kernel_rfl) (NQ_free _) (by kernel_rfl) ?cw4R1 ?ch4R1 ?ca4R1 (Eq.refl _) ?cH4R1
  case cw4R1 => (go_simp; done)
  case ch4R1 =>
    intro ds w' hS K hK
    obtain ⟨c0, c1, c2, c3, c4, c5, c6, c7, c8, c9, c10, c11, c12, cf⟩ := blk13 hS.2.1
    obtain ⟨x0, x1, xf⟩ := blk2_ hS.2.2
    have l0 := hS.2.1.lt
    have lx := hS.2.2.lt
    go_simp
    try go_bits
    exact hK _ hS (Gr.refl _)
  case ca4R1 => (first | (simp [Act.put]; done) | (simp [Act.put, *]; done))
  try dsimp only
  clear hBB b0 bx
  refine wpW_branch [1] (by kernel_rfl) (by simp) ?_
  intro w1 hg1 hS1
  try clear z
  have z := hS1
  refine each_cons ?_ (each_nil)
  refine wpOp_go (by rfl) (Eq.refl _) (by go_simp; done) ?_
  intro K hK
  go_simp
  try simp only [Act.put]
  refine (HCS.out w1 z.1).mono ?_
  rintro e wq ⟨q5, m5, rfl, hal5, hs5, _, hBq⟩
  replace z := And.intro (Below.trans z.1 (Below.mono hBq (Below.size z.1))) (And.intro (Blk.gr z.2.1 hBq) (Blk.gr z.2.2 hBq))
  refine hK _ _ z ?_
  clear hK K hBq
  refine wpW_branch [3] (by kernel_rfl) (by simp) ?_
  intro w2 hg2 hS2
  try clear z
  have z := hS2
  replace hs5 := hs5.gr_ hg2
  refine each_cons ?_ (each_nil)
  refine wpOp_go (by rfl) (Eq.refl _) (by go_simp; done) ?_
  intro K hK
  go_simp
  try simp only [Act.put]
  refine (HCL.out w2 z.1).mono ?_
  rintro e wq ⟨A5, k5, rfl, own5, hBq⟩
  replace z := And.intro (Below.trans z.1 (Below.mono hBq (Below.size z.1))) (And.intro (Blk.gr z.2.1 hBq) (Blk.gr z.2.2 hBq))
  replace hs5 := hs5.gr_ hBq
  refine hK _ _ z ?_
  clear hK K hBq
  refine wpW_branch [5] (by kernel_rfl) (by simp) ?_
  intro w3 hg3 hS3
  try clear z
  have z := hS3
  replace hs5 := hs5.gr_ hg3
  replace own5 := own_below own5 hg3
  refine each_cons ?_ (each_nil)
  refine wpOp_go (by rfl) (Eq.refl _) (by go_simp; done) ?_
  intro K hK
  go_simp
  try simp only [Act.put]
  refine (accept_closed ⟨s.pe, s.cd, s.thick, q5, s.tk, s.gf, s.gt, s.lv⟩ m5 _ log A5 k5 _ xb xt w3 hs5 ⟨own_row_ own5, Nat.le_refl _, fun x hx => Nat.le_trans (HLG.out.sz x hx).2 (by decide), Nat.le_trans HLG.out.len (by decide)⟩ (HF.out _ z.1).1 (HF.out _ z.1).2.1 (HF.out _ z.1).2.2.1 HXT.out st ((HV.out q5 hal5).trans HZ.out) HCL2.out).mono ?_
  rintro e wq ⟨⟨E5, hE5, rfl⟩, hBq⟩
  have HE5 := Lib.hid hE5; clear hE5
  replace z := And.intro (Below.trans z.1 (Below.mono hBq (Below.size z.1))) (And.intro (Blk.gr z.2.1 hBq) (Blk.gr z.2.2 hBq))
  refine hK _ _ z ?_
  clear hK K hBq hs5 own5 hal5
  refine wpW_det (t' := ?ct6R2) 6 (by rfl) (by kernel_rfl) (NQ_free _) (by kernel_rfl) ?cw6R2 ?ch6R2 ?ca6R2 (Eq.refl _) ?cH6R2
  case cw6R2 => (go_simp; done)
  case ch6R2 =>
    intro ds w' hS K hK
    go_simp
    try go_bits
    exact hK _ hS (Gr.refl _)
  case ca6R2 => (first | (simp [Act.put]; done) | (simp [Act.put, *]; done))
  try dsimp only
  refine wpW_det (t' := ?ct7R2) 7 (by rfl) (by kernel_rfl) (NQ_free _) (by kernel_rfl) ?cw7R2 ?ch7R2 ?ca7R2 (Eq.refl _) ?cH7R2
  case cw7R2 => (go_simp; done)
  case ch7R2 =>
    intro ds w' hS K hK
    go_simp
    try go_bits
    exact hK _ hS (Gr.refl _)
  case ca7R2 => (first | (simp [Act.put]; done) | (simp [Act.put, *]; done))
  try dsimp only
  refine wpW_det (t' := ?ct8R2) 8 (by rfl) (by kernel_rfl) (NQ_free _) (by kernel_rfl) ?cw8R2 ?ch8R2 ?ca8R2 (Eq.refl _) ?cH8R2
  case cw8R2 => (go_simp; done)
  case ch8R2 =>
    intro ds w' hS K hK
    go_simp
    try go_bits
    exact hK _ hS (Gr.refl _)
  case ca8R2 => (first | (simp [Act.put]; done) | (simp [Act.put, *]; done))
  try dsimp only
  refine wpW_det (t' := ?ct9R2) 9 (by rfl) (by kernel_rfl) (NQ_free _) (by kernel_rfl) ?cw9R2 ?ch9R2 ?ca9R2 (Eq.refl _) ?cH9R2
  case cw9R2 => (go_simp; done)
  case ch9R2 =>
    intro ds w' hS K hK
    go_simp
    try go_bits
    exact hK _ hS (Gr.refl _)
  case ca9R2 => (first | (simp [Act.put]; done) | (simp [Act.put, *]; done))
  try dsimp only
  refine wpW_det (t' := ?ct10R2) 10 (by rfl) (by kernel_rfl) (NQ_free _) (by kernel_rfl) ?cw10R2 ?ch10R2 ?ca10R2 (Eq.refl _) ?cH10R2
  case cw10R2 => (go_simp; done)
  case ch10R2 =>
    intro ds w' hS K hK
    go_simp
    try go_bits
    exact hK _ hS (Gr.refl _)
  case ca10R2 => (first | (simp [Act.put]; done) | (simp [Act.put, *]; done))
  try dsimp only
  refine wpW_end (by kernel_rfl) ?_
  intro we hg hS
  unfold NQ
  dsimp only
  have h5 : (E5 != 0) = true := by simpa using HE5.out
  go_wp2
  go_ret
  exact ⟨rfl, hS.1⟩
end Go.Proofs.YtmdbpkomanhpoaaGreatDoor
