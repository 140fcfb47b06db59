/- Contracts: the error of a set-up and of an ask; what a set-up meets, told. -/
import Derived.Test.YtlnkgjkjdllckaaGreatDoorZpCvG
namespace Go.Proofs.YtlnkgjkjdllckaaGreatDoor
open Go.RowKit

set_option maxHeartbeats 400000 in
theorem jointErr_any (j : Jo) (A : Option Addr) (c B : Nat) (w : World) (hs : j.nm.size ≤ 1000000000000) (hfs : ∀ p ∈ j.fs, p.1.size ≤ 1000000000000) (hn : j.fs.length ≤ c) (hc : c ≤ 9223372036854775807) (hR : Row w B 5 A j.fs.length (fcsC j.fs)) (hB : B ≤ w.heap.size) :
    Calls Tryz.prog 45 #[.agg (joC j A c)] w fun e w' => e = .returned (.int .i64 (jointE j).2) ∧ Below w.heap.size w w' := by
  unfold joC
  go_enter Tryz.func45, Tryz.ntmps45
  go_wp2_with fail
  refine (checkJoint_any j A c B _ hs hfs hn hc (hR.alloc hB _) (by simp; omega)).mono ?_
  rintro e w1 ⟨rfl, hB1⟩; obtain ⟨hc1, hf1⟩ := bcell hB1; have hz1 := hB1.size; (try simp at hz1)
  go_wp2
  go_ret
  exact ⟨rfl, (by repeat (first | (with_reducible exact Below.refl _ _) | (with_reducible assumption) | ((with_reducible refine Below.setCell ?_ ?_ _); rotate_left; · (first | exact Nat.le_refl _ | (simp; done) | (simp; omega) | omega)) | ((with_reducible refine Below.alloc ?_ ?_ _); rotate_left; · (first | exact Nat.le_refl _ | (simp; done) | (simp; omega) | omega)) | (with_reducible apply Below.drew) | (with_reducible apply below_drewN') | (refine Below.trans ?_ (Below.mono (by assumption) (by first | exact Nat.le_refl _ | (simp; done) | (simp; omega) | omega))) | exact Below.refl _ _ | assumption))⟩

/-- The error of a joint and a face. -/
def openFaceE (j : Jo) (face : Int) : Int := if (jointE j).2 = 0 then (if wi face 0 (j.fs.length - 1) then 0 else 6) else (jointE j).2

set_option maxHeartbeats 400000 in
theorem openFace_any (j : Jo) (face : Int) (A : Option Addr) (c B : Nat) (w : World) (hs : j.nm.size ≤ 1000000000000) (hfs : ∀ p ∈ j.fs, p.1.size ≤ 1000000000000) (hn : j.fs.length ≤ c) (hc : c ≤ 9223372036854775807) (hR : Row w B 5 A j.fs.length (fcsC j.fs)) (hB : B ≤ w.heap.size) :
    Calls Tryz.prog 52 #[.agg (joC j A c), .int .i64 face] w fun e w' => e = .returned (.int .i64 (openFaceE j face)) ∧ Below w.heap.size w w' := by
  unfold joC
  by_cases h0 : (jointE j).2 = 0
  · have h1 : ((jointE j).2 != 0) = false := by simpa using h0
    have HE : Hid (openFaceE j face = if wi face 0 (j.fs.length - 1) then 0 else 6) := by unfold openFaceE; rw [if_pos h0]; rfl
    have H0 := Lib.hid h0; clear h0
    go_enter Tryz.func52, Tryz.ntmps52
    go_wp2_with fail
    refine (jointErr_any j A c B _ hs hfs hn hc (hR.alloc hB _) (by simp; omega)).mono ?_
    rintro e w1 ⟨rfl, hB1⟩; obtain ⟨hc1, hf1⟩ := bcell hB1; have hz1 := hB1.size; (try simp at hz1)
    go_wp2_with (go_at_call 60; refine (within_any _ _ _ _).mono ?_; rintro e w1 ⟨rfl, rfl⟩)
    all_goals
      go_ret
      refine ⟨?_, (by repeat (first | (with_reducible exact Below.refl _ _) | (with_reducible assumption) | ((with_reducible refine Below.setCell ?_ ?_ _); rotate_left; · (first | exact Nat.le_refl _ | (simp; done) | (simp; omega) | omega)) | ((with_reducible refine Below.alloc ?_ ?_ _); rotate_left; · (first | exact Nat.le_refl _ | (simp; done) | (simp; omega) | omega)) | (with_reducible apply Below.drew) | (with_reducible apply below_drewN') | (refine Below.trans ?_ (Below.mono (by assumption) (by first | exact Nat.le_refl _ | (simp; done) | (simp; omega) | omega))) | exact Below.refl _ _ | assumption))⟩
      rw [HE.out]
      show Ending.returned (Value.int _ _) = _
      congr 2
      grind
  · have h1 : ((jointE j).2 != 0) = true := by simpa using h0
    have HE : Hid (openFaceE j face = (jointE j).2) := by unfold openFaceE; rw [if_neg h0]; rfl
    have H0 := Lib.hid h0; clear h0
    go_enter Tryz.func52, Tryz.ntmps52
    go_wp2_with fail
    refine (jointErr_any j A c B _ hs hfs hn hc (hR.alloc hB _) (by simp; omega)).mono ?_
    rintro e w1 ⟨rfl, hB1⟩; obtain ⟨hc1, hf1⟩ := bcell hB1; have hz1 := hB1.size; (try simp at hz1)
    go_wp2
    go_ret
    exact ⟨by rw [HE.out]; rfl, (by repeat (first | (with_reducible exact Below.refl _ _) | (with_reducible assumption) | ((with_reducible refine Below.setCell ?_ ?_ _); rotate_left; · (first | exact Nat.le_refl _ | (simp; done) | (simp; omega) | omega)) | ((with_reducible refine Below.alloc ?_ ?_ _); rotate_left; · (first | exact Nat.le_refl _ | (simp; done) | (simp; omega) | omega)) | (with_reducible apply Below.drew) | (with_reducible apply below_drewN') | (refine Below.trans ?_ (Below.mono (by assumption) (by first | exact Nat.le_refl _ | (simp; done) | (simp; omega) | omega))) | exact Below.refl _ _ | assumption))⟩

abbrev I64 (x : Int) : Prop := -9223372036854775808 ≤ x ∧ x ≤ 9223372036854775807
/-- The numbers of a set-up are numbers of the machine. -/
structure Su.wf (s : Su) : Prop where
  at_ : I64 s.at_
  side : I64 s.side
  legs : I64 s.legs
  ln : I64 s.ln
  ld : I64 s.ld
  mn : I64 s.mn
  md : I64 s.md
  tn : I64 s.tn
  td : I64 s.td
def kindB (s : Su) : Bool := (decide (s.side = 1) || decide (s.side = -1)) && wi s.legs 1 2
/-- The error of a set-up. -/
def setupE (nm : ByteArray) (s : Su) : Int :=
  if nameB nm = false then 4 else if wi s.at_ (-20000) 20000 = false then 2 else if kindB s = false then 15
  else if tanE s.ln s.ld ≠ 0 then tanE s.ln s.ld else if tanE s.mn s.md ≠ 0 then tanE s.mn s.md else if tanE s.tn s.td ≠ 0 then tanE s.tn s.td
  else if s.mn * s.ld < s.ln * s.md then 9 else 0

theorem tanE_zero {n d : Int} (h : tanE n d = 0) : 0 ≤ n ∧ n ≤ 100 ∧ 0 < d ∧ d ≤ 100 := by
  unfold tanE lowB wi at h
  grind

set_option maxRecDepth 100000 in
set_option maxHeartbeats 1000000 in
theorem checkSetup_any (nm : ByteArray) (s : Su) (w : World) (hs : nm.size ≤ 1000000000000) (hw : s.wf) :
    Calls Tryz.prog 61 #[.agg (suC nm s)] w fun e w' => e = .returned (.int .i64 (setupE nm s)) ∧ Below w.heap.size w w' := by
  unfold suC
  cases h1 : nameB nm
  · have H1 := Lib.hid h1; clear h1
    have HE : Hid (setupE nm s = 4) := by unfold setupE; rw [H1.out]; rfl
    go_enter Tryz.func61, Tryz.ntmps61
    go_wp2_with (go_at_call 91; refine (isName_any _ _ hs).mono ?_; rw [H1.out]; rintro e w1 ⟨rfl, hB1⟩; obtain ⟨hc1, hf1⟩ := bcell hB1; have hz1 := hB1.size; (try simp at hz1))
    go_ret
    exact ⟨by rw [HE.out]; rfl, (by repeat (first | (with_reducible exact Below.refl _ _) | (with_reducible assumption) | ((with_reducible refine Below.setCell ?_ ?_ _); rotate_left; · (first | exact Nat.le_refl _ | (simp; done) | (simp; omega) | omega)) | ((with_reducible refine Below.alloc ?_ ?_ _); rotate_left; · (first | exact Nat.le_refl _ | (simp; done) | (simp; omega) | omega)) | (with_reducible apply Below.drew) | (with_reducible apply below_drewN') | (refine Below.trans ?_ (Below.mono (by assumption) (by first | exact Nat.le_refl _ | (simp; done) | (simp; omega) | omega))) | exact Below.refl _ _ | assumption))⟩
  · have H1 := Lib.hid h1; clear h1
    cases t1 : wi s.at_ (-20000) 20000
    · have HE : Hid (setupE nm s = 2) := by unfold setupE; rw [H1.out, t1]; rfl
      go_enter Tryz.func61, Tryz.ntmps61
      go_wp2_with (first | (go_at_call 91; refine (isName_any _ _ hs).mono ?_; rw [H1.out]; rintro e w1 ⟨rfl, hB1⟩; obtain ⟨hc1, hf1⟩ := bcell hB1; have hz1 := hB1.size; (try simp at hz1)) | (go_at_call 68; refine (small_any _ _ (by omega) (by omega) _).mono ?_; rintro e w1 ⟨rfl, rfl⟩))
      go_ret
      exact ⟨by rw [HE.out]; rfl, (by repeat (first | (with_reducible exact Below.refl _ _) | (with_reducible assumption) | ((with_reducible refine Below.setCell ?_ ?_ _); rotate_left; · (first | exact Nat.le_refl _ | (simp; done) | (simp; omega) | omega)) | ((with_reducible refine Below.alloc ?_ ?_ _); rotate_left; · (first | exact Nat.le_refl _ | (simp; done) | (simp; omega) | omega)) | (with_reducible apply Below.drew) | (with_reducible apply below_drewN') | (refine Below.trans ?_ (Below.mono (by assumption) (by first | exact Nat.le_refl _ | (simp; done) | (simp; omega) | omega))) | exact Below.refl _ _ | assumption))⟩
    · go_enter Tryz.func61, Tryz.ntmps61
      go_upto_region 5 with (first | (go_at_call 91; refine (isName_any _ _ hs).mono ?_; rw [H1.out]; rintro e w1 ⟨rfl, hB1⟩; obtain ⟨hc1, hf1⟩ := bcell hB1; have hz1 := hB1.size; (try simp at hz1)) | (go_at_call 68; refine (small_any _ _ (by omega) (by omega) _).mono ?_; rintro e w1 ⟨rfl, rfl⟩) | fail)
      go_cut [16] (fun s16 wx => ∃ kb : Bool, s16 = .bool kb ∧ Hid (kb = !kindB s) ∧ wx = w1)
      case first =>
        by_cases e1 : s.side = 1
        · have e1' : (s.side != 1) = false := by simpa using e1
          have HK : Hid (kindB s = wi s.legs 1 2) := by unfold kindB; rw [e1]; rfl
          clear e1
          go_wp2_with (go_at_call 60; refine (within_any _ _ _ _).mono ?_; rintro e w1 ⟨rfl, rfl⟩)
          go_meet
          exact ⟨_, rfl, Lib.hid (by rw [HK.out]), rfl⟩
        · have e1' : (s.side != 1) = true := by simpa using e1
          by_cases e2 : s.side = -1
          · have e2' : (s.side != -1) = false := by simpa using e2
            have HK : Hid (kindB s = wi s.legs 1 2) := by unfold kindB; rw [e2]; rfl
            clear e1 e2
            go_wp2_with (go_at_call 60; refine (within_any _ _ _ _).mono ?_; rintro e w1 ⟨rfl, rfl⟩)
            go_meet
            exact ⟨_, rfl, Lib.hid (by rw [HK.out]), rfl⟩
          · have e2' : (s.side != -1) = true := by simpa using e2
            have HK : Hid (kindB s = false) := by refine Lib.hid ?_; unfold kindB; simp [e1, e2]
            clear e1 e2
            go_wp2_with (go_at_call 60; refine (within_any _ _ _ _).mono ?_; rintro e w1 ⟨rfl, rfl⟩)
            go_meet
            exact ⟨_, rfl, Lib.hid (by rw [HK.out]; rfl), rfl⟩
      case rest =>
        obtain ⟨kb, rfl, HKB, rfl⟩ := hcut
        have b1 : Blk wc w.heap.size 34 (suC nm s) := Blk.below (Blk.new w _ _) hB1 (by simp)
        have hBB : Below w.heap.size w wc := Below.trans (Below.alloc (Below.refl _ _) (Nat.le_refl _) _) (hB1.mono (by simp))
        clear hB1 hc1 hf1
        cases kb
        rotate_left
        · have t2 : kindB s = false := by have := HKB.out; revert this; cases kindB s <;> simp
          have HE : Hid (setupE nm s = 15) := by unfold setupE; rw [H1.out, t1, t2]; rfl
          clear t2
          go_wp2
          go_ret
          exact ⟨by rw [HE.out]; rfl, hBB⟩
        · have t2 : kindB s = true := by have := HKB.out; revert this; cases kindB s <;> simp
          have HE : Hid (setupE nm s = if tanE s.ln s.ld ≠ 0 then tanE s.ln s.ld else if tanE s.mn s.md ≠ 0 then tanE s.mn s.md else if tanE s.tn s.td ≠ 0 then tanE s.tn s.td else if s.mn * s.ld < s.ln * s.md then 9 else 0) := by unfold setupE; rw [H1.out, t1, t2]; rfl
          obtain ⟨q4, q5, q6, q7, q8, q9⟩ := su_cells b1
          have i0 : ∀ W, (Instr.index 140 (.agg #[.int .i64 s.ln, .int .i64 s.ld, .int .i64 s.mn, .int .i64 s.md, .int .i64 s.tn, .int .i64 s.td]) (.int .i64 0)).run Tryz.prog W = .ok (.agg #[.int .i64 s.ln, .int .i64 s.ld]) W := fun _ => by kernel_rfl
          have i1 : ∀ W, (Instr.index 140 (.agg #[.int .i64 s.ln, .int .i64 s.ld, .int .i64 s.mn, .int .i64 s.md, .int .i64 s.tn, .int .i64 s.td]) (.int .i64 1)).run Tryz.prog W = .ok (.agg #[.int .i64 s.mn, .int .i64 s.md]) W := fun _ => by kernel_rfl
          have i2 : ∀ W, (Instr.index 140 (.agg #[.int .i64 s.ln, .int .i64 s.ld, .int .i64 s.mn, .int .i64 s.md, .int .i64 s.tn, .int .i64 s.td]) (.int .i64 2)).run Tryz.prog W = .ok (.agg #[.int .i64 s.tn, .int .i64 s.td]) W := fun _ => by kernel_rfl
          go_wp2_with fail
          go_loopw [38] (fun i wr => Blk wr w.heap.size 34 (suC nm s) ∧ Below w.heap.size w wr ∧ (i = .int .i64 0 ∨ (i = .int .i64 1 ∧ Hid (tanE s.ln s.ld = 0)) ∨ (i = .int .i64 2 ∧ Hid (tanE s.ln s.ld = 0) ∧ Hid (tanE s.mn s.md = 0)) ∨
            (i = .int .i64 3 ∧ Hid (tanE s.ln s.ld = 0) ∧ Hid (tanE s.mn s.md = 0) ∧ Hid (tanE s.tn s.td = 0)))) (fun i _ => 3 - (intOf i).toNat)
          case atStart => exact ⟨b1, hBB, .inl rfl⟩
          case round =>
            clear b1 hBB q4 q5 q6 q7 q8 q9
            obtain ⟨b1, hBB, hi⟩ := hrel
            have lb := b1.lt
            rcases hi with rfl | ⟨rfl, T1⟩ | ⟨rfl, T1, T2⟩ | ⟨rfl, T1, T2, T3⟩
            · go_wp2_with fail
              refine (tangentErr_any s.ln s.ld hw.ln hw.ld _).mono ?_
              rintro e w1 ⟨rfl, hB1⟩; obtain ⟨hc1, hf1⟩ := bcell hB1; have hz1 := hB1.size; (try simp at hz1)
              have hb' : Blk w1 w.heap.size 34 (suC nm s) := (b1.alloc _).below hB1 (by simp; omega)
              have hBw : Below w.heap.size w w1 := Below.trans (Below.alloc hBB (Below.size hBB) _) (hB1.mono (by have := Below.size hBB; simp; omega))
              clear hc1 hf1
              by_cases hz0 : tanE s.ln s.ld = 0
              · have hz2 : (tanE s.ln s.ld != 0) = false := by simpa using hz0
                have HZ := Lib.hid hz0; clear hz0
                go_wp2
                go_roundw
                case rel => exact ⟨hb', hBw, .inr (.inl ⟨rfl, HZ⟩)⟩
                case measure => simp [intOf]
              · have hz2 : (tanE s.ln s.ld != 0) = true := by simpa using hz0
                have HZ : Hid (setupE nm s = tanE s.ln s.ld) := by rw [HE.out, if_pos hz0]; rfl
                clear hz0
                go_wp2
                go_ret
                exact ⟨by rw [HZ.out]; rfl, hBw⟩
            · go_wp2_with fail
              refine (tangentErr_any s.mn s.md hw.mn hw.md _).mono ?_
              rintro e w1 ⟨rfl, hB1⟩; obtain ⟨hc1, hf1⟩ := bcell hB1; have hz1 := hB1.size; (try simp at hz1)
              have hb' : Blk w1 w.heap.size 34 (suC nm s) := (b1.alloc _).below hB1 (by simp; omega)
              have hBw : Below w.heap.size w w1 := Below.trans (Below.alloc hBB (Below.size hBB) _) (hB1.mono (by have := Below.size hBB; simp; omega))
              clear hc1 hf1
              by_cases hz0 : tanE s.mn s.md = 0
              · have hz2 : (tanE s.mn s.md != 0) = false := by simpa using hz0
                have HZ := Lib.hid hz0; clear hz0
                go_wp2
                go_roundw
                case rel => exact ⟨hb', hBw, .inr (.inr (.inl ⟨rfl, T1, HZ⟩))⟩
                case measure => simp [intOf]
              · have hz2 : (tanE s.mn s.md != 0) = true := by simpa using hz0
                have HZ : Hid (setupE nm s = tanE s.mn s.md) := by rw [HE.out, if_neg (by rw [T1.out]; simp), if_pos hz0]; rfl
                clear hz0
                go_wp2
                go_ret
                exact ⟨by rw [HZ.out]; rfl, hBw⟩
            · go_wp2_with fail
              refine (tangentErr_any s.tn s.td hw.tn hw.td _).mono ?_
              rintro e w1 ⟨rfl, hB1⟩; obtain ⟨hc1, hf1⟩ := bcell hB1; have hz1 := hB1.size; (try simp at hz1)
              have hb' : Blk w1 w.heap.size 34 (suC nm s) := (b1.alloc _).below hB1 (by simp; omega)
              have hBw : Below w.heap.size w w1 := Below.trans (Below.alloc hBB (Below.size hBB) _) (hB1.mono (by have := Below.size hBB; simp; omega))
              clear hc1 hf1
              by_cases hz0 : tanE s.tn s.td = 0
              · have hz2 : (tanE s.tn s.td != 0) = false := by simpa using hz0
                have HZ := Lib.hid hz0; clear hz0
                go_wp2
                go_roundw
                case rel => exact ⟨hb', hBw, .inr (.inr (.inr ⟨rfl, T1, T2, HZ⟩))⟩
                case measure => simp [intOf]
              · have hz2 : (tanE s.tn s.td != 0) = true := by simpa using hz0
                have HZ : Hid (setupE nm s = tanE s.tn s.td) := by rw [HE.out, if_neg (by rw [T1.out]; simp), if_neg (by rw [T2.out]; simp), if_pos hz0]; rfl
                clear hz0
                go_wp2
                go_ret
                exact ⟨by rw [HZ.out]; rfl, hBw⟩
            · have B1 := tanE_zero T1.out
              have B2 := tanE_zero T2.out
              have p1 := mul_bd s.mn s.ld 100 100 (by omega) (by omega)
              have p2 := mul_bd s.ln s.md 100 100 (by omega) (by omega)
              have HZ : Hid (setupE nm s = if s.mn * s.ld < s.ln * s.md then 9 else 0) := by rw [HE.out, if_neg (by rw [T1.out]; simp), if_neg (by rw [T2.out]; simp), if_neg (by rw [T3.out]; simp)]; rfl
              obtain ⟨q4, q5, q6, q7, q8, q9⟩ := su_cells b1
              go_wp2
              all_goals
                go_ret
                refine ⟨?_, hBB⟩
                rw [HZ.out]
                show Ending.returned (Value.int _ _) = _
                congr 2
                grind

/-- An ask as a value: the number of a face, and a set-up. -/
def asC (face : Int) (nm : ByteArray) (s : Su) : Array Value := #[.int .i64 face, .string nm, .int .i64 s.at_, .int .i64 s.side, .int .i64 s.legs, .int .i64 s.ln, .int .i64 s.ld, .int .i64 s.mn, .int .i64 s.md, .int .i64 s.tn, .int .i64 s.td]
/-- The error of a joint and an ask. -/
def askE (j : Jo) (face : Int) (nm : ByteArray) (s : Su) : Int := if openFaceE j face = 0 then setupE nm s else openFaceE j face

set_option maxHeartbeats 400000 in
theorem openAsk_any (j : Jo) (face : Int) (sn : ByteArray) (s : Su) (A : Option Addr) (c B : Nat) (w : World) (hs : j.nm.size ≤ 1000000000000) (hfs : ∀ p ∈ j.fs, p.1.size ≤ 1000000000000) (hn : j.fs.length ≤ c) (hc : c ≤ 9223372036854775807) (hR : Row w B 5 A j.fs.length (fcsC j.fs)) (hB : B ≤ w.heap.size)
    (hsn : sn.size ≤ 1000000000000) (hw : s.wf) :
    Calls Tryz.prog 36 #[.agg (joC j A c), .agg (asC face sn s)] w fun e w' => e = .returned (.int .i64 (askE j face sn s)) ∧ Below w.heap.size w w' := by
  unfold joC asC
  by_cases h0 : openFaceE j face = 0
  · have h1 : (openFaceE j face != 0) = false := by simpa using h0
    have HE : Hid (askE j face sn s = setupE sn s) := by unfold askE; rw [if_pos h0]; rfl
    have H0 := Lib.hid h0; clear h0
    go_enter Tryz.func36, Tryz.ntmps36
    go_wp2_with fail
    refine (openFace_any j face A c B _ hs hfs hn hc ((hR.alloc hB _).alloc (by simp; omega) _) (by simp; omega)).mono ?_
    rintro e w1 ⟨rfl, hB1⟩; obtain ⟨hc1, hf1⟩ := bcell hB1; have hz1 := hB1.size; (try simp at hz1)
    go_wp2_with fail
    refine (checkSetup_any sn s _ hsn hw).mono ?_
    rintro e w2 ⟨rfl, hB2⟩
    go_wp2
    go_ret
    exact ⟨by rw [HE.out]; rfl, Below.trans (Below.trans (((Below.refl _ _).alloc (Nat.le_refl _) _).alloc (by simp) _) (hB1.mono (by simp; omega))) (hB2.mono (by omega))⟩
  · have h1 : (openFaceE j face != 0) = true := by simpa using h0
    have HE : Hid (askE j face sn s = openFaceE j face) := by unfold askE; rw [if_neg h0]; rfl
    have H0 := Lib.hid h0; clear h0
    go_enter Tryz.func36, Tryz.ntmps36
    go_wp2_with fail
    refine (openFace_any j face A c B _ hs hfs hn hc ((hR.alloc hB _).alloc (by simp; omega) _) (by simp; omega)).mono ?_
    rintro e w1 ⟨rfl, hB1⟩; obtain ⟨hc1, hf1⟩ := bcell hB1; have hz1 := hB1.size; (try simp at hz1)
    go_wp2
    go_ret
    exact ⟨by rw [HE.out]; rfl, (by repeat (first | (with_reducible exact Below.refl _ _) | (with_reducible assumption) | ((with_reducible refine Below.setCell ?_ ?_ _); rotate_left; · (first | exact Nat.le_refl _ | (simp; done) | (simp; omega) | omega)) | ((with_reducible refine Below.alloc ?_ ?_ _); rotate_left; · (first | exact Nat.le_refl _ | (simp; done) | (simp; omega) | omega)) | (with_reducible apply Below.drew) | (with_reducible apply below_drewN') | (refine Below.trans ?_ (Below.mono (by assumption) (by first | exact Nat.le_refl _ | (simp; done) | (simp; omega) | omega))) | exact Below.refl _ _ | assumption))⟩

/-- What is asked of a joint in memory. -/
structure JoOk (j : Jo) (A : Option Addr) (c B : Nat) (w : World) : Prop where
  nm : j.nm.size ≤ 1000000000000
  fs : ∀ p ∈ j.fs, p.1.size ≤ 1000000000000
  len : j.fs.length ≤ c
  cap : c ≤ 9223372036854775807
  row : Row w B 5 A j.fs.length (fcsC j.fs)
  base : B ≤ w.heap.size
end Go.Proofs.YtlnkgjkjdllckaaGreatDoor
