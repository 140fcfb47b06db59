/- Contracts: the error of set-ups; a joint, a face and set-ups. -/
import Derived.Test.YtlnkgjkjdllckaaGreatDoorZpCvK
namespace Go.Proofs.YtlnkgjkjdllckaaGreatDoor
open Go.RowKit

/-- The cells of set-ups, one behind the other. -/
def sucsC (l : List (ByteArray × Su)) : List Value := l.flatMap fun p => [.string p.1, .int .i64 p.2.at_, .int .i64 p.2.side, .int .i64 p.2.legs, .int .i64 p.2.ln, .int .i64 p.2.ld, .int .i64 p.2.mn, .int .i64 p.2.md, .int .i64 p.2.tn, .int .i64 p.2.td]
theorem sucsC_length (l : List (ByteArray × Su)) : (sucsC l).length = l.length * 10 := by
  induction l with
  | nil => rfl
  | cons p l ih => simp only [sucsC, List.flatMap_cons, List.length_append] at ih ⊢; rw [ih]; simp; omega
theorem sucsC_get : ∀ (l : List (ByteArray × Su)) (k : Nat) (p : ByteArray × Su), l[k]? = some p →
    (sucsC l)[k * 10]? = some (.string p.1) ∧ (sucsC l)[k * 10 + 1]? = some (.int .i64 p.2.at_) ∧ (sucsC l)[k * 10 + 2]? = some (.int .i64 p.2.side) ∧ (sucsC l)[k * 10 + 3]? = some (.int .i64 p.2.legs) ∧ (sucsC l)[k * 10 + 4]? = some (.int .i64 p.2.ln) ∧
    (sucsC l)[k * 10 + 5]? = some (.int .i64 p.2.ld) ∧ (sucsC l)[k * 10 + 6]? = some (.int .i64 p.2.mn) ∧ (sucsC l)[k * 10 + 7]? = some (.int .i64 p.2.md) ∧ (sucsC l)[k * 10 + 8]? = some (.int .i64 p.2.tn) ∧ (sucsC l)[k * 10 + 9]? = some (.int .i64 p.2.td)
  | [], k, p, h => by simp at h
  | q :: l, 0, p, h => by obtain rfl : q = p := by simpa using h
                          exact ⟨rfl, rfl, rfl, rfl, rfl, rfl, rfl, rfl, rfl, rfl⟩
  | q :: l, k + 1, p, h => by
    have ih := sucsC_get l k p (by simpa using h)
    have e : ∀ j, (sucsC (q :: l))[(k + 1) * 10 + j]? = (sucsC l)[k * 10 + j]? := fun j => by
      rw [show (k + 1) * 10 + j = (k * 10 + j) + 10 by omega]; rfl
    exact ⟨(e 0).trans ih.1, (e 1).trans ih.2.1, (e 2).trans ih.2.2.1, (e 3).trans ih.2.2.2.1, (e 4).trans ih.2.2.2.2.1, (e 5).trans ih.2.2.2.2.2.1, (e 6).trans ih.2.2.2.2.2.2.1, (e 7).trans ih.2.2.2.2.2.2.2.1, (e 8).trans ih.2.2.2.2.2.2.2.2.1, (e 9).trans ih.2.2.2.2.2.2.2.2.2⟩
theorem sucsC_take (l : List (ByteArray × Su)) (k : Nat) : sucsC (l.take k) = (sucsC l).take (k * 10) := by
  induction l generalizing k with
  | nil => simp [sucsC]
  | cons p l ih =>
    cases k with
    | zero => simp [sucsC]
    | succ k => 
      have := ih k
      simp only [sucsC, List.take_succ_cons, List.flatMap_cons] at this ⊢
      rw [this, show (k + 1) * 10 = k * 10 + 10 by omega]
      rfl
theorem Row.takeS {w : World} {B : Nat} {A : Option Addr} {l : List (ByteArray × Su)} (h : Row w B 10 A l.length (sucsC l)) {k : Nat} (hk : k ≤ l.length) : Row w B 10 A (l.take k).length (sucsC (l.take k)) := by
  refine ⟨sucsC_length _, fun hn => ?_⟩
  have hl : (l.take k).length ≤ k := List.length_take_le _ _
  obtain ⟨g, o, hA, hb, hc⟩ := h.2 (by omega)
  refine ⟨g, o, hA, hb, fun j u hu => hc j u ?_⟩
  rw [sucsC_take, List.getElem?_take] at hu
  split at hu
  · exact hu
  · cases hu
theorem suCells {w : World} {B : Nat} {A : Option Addr} {l : List (ByteArray × Su)} (h : Row w B 10 A l.length (sucsC l)) {k : Nat} (hk : k < l.length) :
    ∃ g o, A = some ⟨g, o, none⟩ ∧ g < B ∧ w.cell? ⟨g, o + k * 10, none⟩ = some (.string l[k].1) ∧ w.cell? ⟨g, o + k * 10 + 1, none⟩ = some (.int .i64 l[k].2.at_) ∧ w.cell? ⟨g, o + k * 10 + 2, none⟩ = some (.int .i64 l[k].2.side) ∧
      w.cell? ⟨g, o + k * 10 + 3, none⟩ = some (.int .i64 l[k].2.legs) ∧ w.cell? ⟨g, o + k * 10 + 4, none⟩ = some (.int .i64 l[k].2.ln) ∧ w.cell? ⟨g, o + k * 10 + 5, none⟩ = some (.int .i64 l[k].2.ld) ∧ w.cell? ⟨g, o + k * 10 + 6, none⟩ = some (.int .i64 l[k].2.mn) ∧
      w.cell? ⟨g, o + k * 10 + 7, none⟩ = some (.int .i64 l[k].2.md) ∧ w.cell? ⟨g, o + k * 10 + 8, none⟩ = some (.int .i64 l[k].2.tn) ∧ w.cell? ⟨g, o + k * 10 + 9, none⟩ = some (.int .i64 l[k].2.td) := by
  obtain ⟨g, o, hA, hb, hc⟩ := h.2 (by omega)
  obtain ⟨g0, g1, g2, g3, g4, g5, g6, g7, g8, g9⟩ := sucsC_get l k l[k] (List.getElem?_eq_getElem hk)
  exact ⟨g, o, hA, hb, hc _ _ g0, hc _ _ g1, hc _ _ g2, hc _ _ g3, hc _ _ g4, hc _ _ g5, hc _ _ g6, hc _ _ g7, hc _ _ g8, hc _ _ g9⟩

set_option maxHeartbeats 400000 in
theorem sameSetup_any (nm nm' : ByteArray) (s : Su) (b : Nat) (w : World) (hc : w.cell? ⟨b, 0, none⟩ = some (.string nm')) :
    Calls Tryz.prog 75 #[.agg (suC nm s), .pointer (some ⟨b, 0, none⟩)] w fun e w' => e = .returned (.bool (sameB nm nm')) ∧ Below w.heap.size w w' := by
  unfold suC
  have hlt := World.block_lt_of_cell? _ _ hc
  go_enter Tryz.func75, Tryz.ntmps75
  go_wp2
  go_ret
  exact ⟨rfl, (by repeat (first | (with_reducible exact Below.refl _ _) | (with_reducible assumption) | ((with_reducible refine Below.setCell ?_ ?_ _); rotate_left; · (first | exact Nat.le_refl _ | (simp; done) | (simp; omega) | omega)) | ((with_reducible refine Below.alloc ?_ ?_ _); rotate_left; · (first | exact Nat.le_refl _ | (simp; done) | (simp; omega) | omega)) | (with_reducible apply Below.drew) | (with_reducible apply below_drewN') | (refine Below.trans ?_ (Below.mono (by assumption) (by first | exact Nat.le_refl _ | (simp; done) | (simp; omega) | omega))) | exact Below.refl _ _ | assumption))⟩

set_option maxHeartbeats 1000000 in
theorem indexSetup_any (l : List (ByteArray × Su)) (A : Option Addr) (c : Nat) (nm' : ByteArray) (b B : Nat) (w : World) (hn : l.length ≤ 1000000) (hR : Row w B 10 A l.length (sucsC l)) (hB : B ≤ w.heap.size) (hc : w.cell? ⟨b, 0, none⟩ = some (.string nm')) :
    Calls Tryz.prog 99 #[.slice A l.length c, .func (.func 75) #[] #[.pointer (some ⟨b, 0, none⟩)]] w fun e w' => ∃ r : Int, e = .returned (.int .i64 r) ∧ Hid (decide (0 ≤ r) = l.any fun p => sameB p.1 nm') ∧ Below w.heap.size w w' := by
  go_enter Tryz.func99, Tryz.ntmps99
  go_wp2
  go_loopw [8] (fun i wr => ∃ k : Nat, k ≤ l.length ∧ i = .int .i64 k ∧ Hid ((l.take k).any (fun p => sameB p.1 nm') = false) ∧ Below w.heap.size w wr) (fun i _ => l.length - (intOf i).toNat)
  case atStart => exact ⟨0, Nat.zero_le _, rfl, rfl, Below.refl _ _⟩
  case round =>
    obtain ⟨k, hk, rfl, HI, hB'⟩ := hrel
    by_cases hlt : k < l.length
    · obtain ⟨g, o, hA, hg, c0, c1, c2, c3, c4, c5, c6, c7, c8, c9⟩ := suCells (hR.below hB' hB) hlt
      subst hA
      have hcb := (hB'.cell (p := ⟨b, 0, none⟩) (World.block_lt_of_cell? _ _ hc)).trans hc
      cases hs : sameB l[k].1 nm'
      · have HS := Lib.hid hs; clear hs
        go_wp2_with fail
        refine (sameSetup_any _ nm' l[k].2 b _ hcb).mono ?_
        rw [HS.out]
        rintro e w1 ⟨rfl, hB1⟩; obtain ⟨hc1, hf1⟩ := bcell hB1; have hz1 := hB1.size; (try simp at hz1)
        go_wp2
        refine ⟨⟨k + 1, by omega, by go_num, by rw [any_take_snoc _ _ hlt, HI.out, HS.out]; rfl, Below.trans hB' (hB1.mono (Below.size hB'))⟩, by simp [intOf]; omega⟩
      · have HS := Lib.hid hs; clear hs
        go_wp2_with fail
        refine (sameSetup_any _ nm' l[k].2 b _ hcb).mono ?_
        rw [HS.out]
        rintro e w1 ⟨rfl, hB1⟩; obtain ⟨hc1, hf1⟩ := bcell hB1; have hz1 := hB1.size; (try simp at hz1)
        go_wp2
        go_ret
        exact ⟨_, rfl, Lib.hid (by rw [any_of_take _ _ hlt _ HS.out]; simp), Below.trans hB' (hB1.mono (Below.size hB'))⟩
    · obtain rfl : k = l.length := by omega
      go_wp2
      go_ret
      exact ⟨_, rfl, by rw [List.take_length] at HI; rw [HI.out]; rfl, hB'⟩

set_option maxHeartbeats 400000 in
theorem hasSetup_at (l : List (ByteArray × Su)) (k : Nat) (hk : k ≤ l.length) (A : Option Addr) (c : Nat) (nm' : ByteArray) (b B : Nat) (w : World) (hn : l.length ≤ 1000000) (hR : Row w B 10 A l.length (sucsC l)) (hB : B ≤ w.heap.size) (hc : w.cell? ⟨b, 0, none⟩ = some (.string nm')) :
    Calls Tryz.prog 74 #[.slice A k c, .func (.func 75) #[] #[.pointer (some ⟨b, 0, none⟩)]] w fun e w' => e = .returned (.bool ((l.take k).any fun p => sameB p.1 nm')) ∧ Below w.heap.size w w' := by
  have hl : (l.take k).length = k := by simp; omega
  have h := indexSetup_any (l.take k) A c nm' b B w (by omega) (hR.takeS hk) hB hc
  rw [hl] at h
  have H := Lib.hid h; clear h hl
  go_enter Tryz.func74, Tryz.ntmps74
  go_wp2_with fail
  refine H.out.mono ?_
  rintro e w1 ⟨r, rfl, HR, hB1⟩
  go_wp2
  go_ret
  exact ⟨by rw [← HR.out]; rfl, hB1⟩

def sesE : List (ByteArray × Su) → List (ByteArray × Su) → Int
  | _, [] => 0
  | before, p :: l => if setupE p.1 p.2 = 0 then (if before.any (fun q => sameB q.1 p.1) = true then 5 else sesE (before ++ [p]) l) else setupE p.1 p.2
/-- The error of set-ups. -/
def setupsE (l : List (ByteArray × Su)) : Int := if 12 < l.length then 8 else sesE [] l
theorem sesE_step {l : List (ByteArray × Su)} {k : Nat} (h : k < l.length) :
    sesE (l.take k) (l.drop k) = if setupE l[k].1 l[k].2 = 0 then (if (l.take k).any (fun q => sameB q.1 l[k].1) = true then 5 else sesE (l.take (k + 1)) (l.drop (k + 1))) else setupE l[k].1 l[k].2 := by
  rw [List.drop_eq_getElem_cons h, sesE, List.take_succ_eq_append_getElem h]

/-- What is asked of set-ups in memory. -/
structure SuOk (l : List (ByteArray × Su)) (A : Option Addr) (c B : Nat) (w : World) : Prop where
  nm : ∀ p ∈ l, p.1.size ≤ 1000000000000
  wf : ∀ p ∈ l, p.2.wf
  len : l.length ≤ c
  cap : c ≤ 9223372036854775807
  row : Row w B 10 A l.length (sucsC l)
  base : B ≤ w.heap.size

set_option maxRecDepth 100000 in
set_option maxHeartbeats 1000000 in
theorem setupsErr_any (l : List (ByteArray × Su)) (A : Option Addr) (c B : Nat) (w : World) (hS : SuOk l A c B w) :
    Calls Tryz.prog 46 #[.slice A l.length c] w fun e w' => e = .returned (.int .i64 (setupsE l)) ∧ Below w.heap.size w w' := by
  obtain ⟨h1, h2, h3, h4, hR, hB⟩ := hS
  by_cases t3 : 12 < l.length
  · have HE : Hid (setupsE l = 8) := by unfold setupsE; rw [if_pos t3]; rfl
    have t3' : (12 : Int) < (l.length : Int) := by omega
    go_enter Tryz.func46, Tryz.ntmps46
    go_wp2
    go_ret
    exact ⟨by rw [HE.out]; rfl, (by repeat (first | (with_reducible exact Below.refl _ _) | (with_reducible assumption) | ((with_reducible refine Below.setCell ?_ ?_ _); rotate_left; · (first | exact Nat.le_refl _ | (simp; done) | (simp; omega) | omega)) | ((with_reducible refine Below.alloc ?_ ?_ _); rotate_left; · (first | exact Nat.le_refl _ | (simp; done) | (simp; omega) | omega)) | (with_reducible apply Below.drew) | (with_reducible apply below_drewN') | (refine Below.trans ?_ (Below.mono (by assumption) (by first | exact Nat.le_refl _ | (simp; done) | (simp; omega) | omega))) | exact Below.refl _ _ | assumption))⟩
  · have HE : Hid (setupsE l = sesE (l.take 0) (l.drop 0)) := by unfold setupsE; rw [if_neg t3]; rfl
    have t3' : (l.length : Int) ≤ 12 := by omega
    clear t3
    go_enter Tryz.func46, Tryz.ntmps46
    go_wp2
    go_loopw [11] (fun i wr => ∃ k : Nat, k ≤ l.length ∧ i = .int .i64 k ∧ Hid (setupsE l = sesE (l.take k) (l.drop k)) ∧ Below w.heap.size w wr) (fun i _ => l.length - (intOf i).toNat)
    case atStart => exact ⟨0, Nat.zero_le _, rfl, HE, Below.refl _ _⟩
    case round =>
      clear HE
      obtain ⟨k, hk, rfl, HI, hBB⟩ := hrel
      by_cases hlt : k < l.length
      · obtain ⟨g, o, hA, hg, c0, c1, c2, c3, c4, c5, c6, c7, c8, c9⟩ := suCells (hR.below hBB hB) hlt
        subst hA
        have hsz : l[k].1.size ≤ 1000000000000 := h1 _ (List.getElem_mem hlt)
        have hwf : l[k].2.wf := h2 _ (List.getElem_mem hlt)
        have hkc : k ≤ c := by omega
        have hkc1 : (k : Int) ≤ (c : Int) := by omega
        have hkc0 : (0 : Int) ≤ (k : Int) := by omega
        have HS := sesE_step hlt
        have HS := Lib.hid (HI.out.trans HS)
        go_wp2_with fail
        refine (checkSetup_any l[k].1 l[k].2 _ hsz hwf).mono ?_
        rintro e w1 ⟨rfl, hB1⟩; obtain ⟨hc1, hf1⟩ := bcell hB1; have hz1 := hB1.size; (try simp at hz1)
        have b1 : Blk w1 wr.heap.size 34 (suC l[k].1 l[k].2) := Blk.below (Blk.new wr _ _) hB1 (by simp)
        have hBw : Below w.heap.size w w1 := Below.trans (Below.alloc hBB (Below.size hBB) _) (hB1.mono (by have := Below.size hBB; simp; omega))
        clear hc1 hf1 hB1 c0 c1 c2 c3 c4 c5 c6 c7 c8 c9
        by_cases hz0 : setupE l[k].1 l[k].2 = 0
        · rw [if_pos hz0] at HS
          have hz1 : (setupE l[k].1 l[k].2 != 0) = false := by simpa using hz0
          have HZ := Lib.hid hz0; clear hz0
          go_wp2_with fail
          refine (hasSetup_at l k hk _ _ l[k].1 _ B _ (by omega) (hR.below hBw hB) (by have := Below.size hBw; omega) (b1.cell 0)).mono ?_
          rintro e w2 ⟨rfl, hB2⟩
          have hB3 : Below w.heap.size w w2 := Below.trans hBw (hB2.mono (Below.size hBw))
          cases hs : (l.take k).any fun q => sameB q.1 l[k].1
          · rw [hs, if_neg (by simp)] at HS
            have HH := Lib.hid hs; clear hs
            go_wp2
            refine ⟨⟨k + 1, by omega, by go_num, HS, hB3⟩, by simp [intOf]; omega⟩
          · rw [hs, if_pos rfl] at HS
            have HH := Lib.hid hs; clear hs
            go_wp2
            go_ret
            exact ⟨by rw [HS.out]; rfl, hB3⟩
        · rw [if_neg hz0] at HS
          have hz1 : (setupE l[k].1 l[k].2 != 0) = true := by simpa using hz0
          have HZ := Lib.hid hz0; clear hz0
          go_wp2
          go_ret
          exact ⟨by rw [HS.out]; rfl, hBw⟩
      · obtain rfl : k = l.length := by omega
        go_wp2
        go_ret
        exact ⟨by rw [HI.out, List.drop_length]; rfl, hBB⟩

/-- The error of a joint, a face and set-ups. -/
def faceSetupsE (j : Jo) (face : Int) (l : List (ByteArray × Su)) : Int := if openFaceE j face = 0 then setupsE l else openFaceE j face

set_option maxHeartbeats 400000 in
theorem openFaceSetups_any (j : Jo) (face : Int) (l : List (ByteArray × Su)) (A : Option Addr) (c B : Nat) (A' : Option Addr) (c' : Nat) (w : World) (hj : JoOk j A c B w) (hl : SuOk l A' c' B w) :
    Calls Tryz.prog 29 #[.agg (joC j A c), .int .i64 face, .slice A' l.length c'] w fun e w' => e = .returned (.int .i64 (faceSetupsE j face l)) ∧ Below w.heap.size w w' := by
  obtain ⟨k1, k2, k3, k4, hR, hB⟩ := hj
  obtain ⟨i1, i2, i3, i4, iR, _⟩ := hl
  unfold joC
  by_cases h0 : openFaceE j face = 0
  · have h1 : (openFaceE j face != 0) = false := by simpa using h0
    have HE : Hid (faceSetupsE j face l = setupsE l) := by unfold faceSetupsE; rw [if_pos h0]; rfl
    have H0 := Lib.hid h0; clear h0
    go_enter Tryz.func29, Tryz.ntmps29
    go_wp2_with fail
    refine (openFace_any j face A c B _ k1 k2 k3 k4 (hR.alloc hB _) (by simp; omega)).mono ?_
    rintro e w1 ⟨rfl, hB1⟩; obtain ⟨hc1, hf1⟩ := bcell hB1; have hz1 := hB1.size; (try simp at hz1)
    go_wp2_with fail
    refine (setupsErr_any l A' c' B _ ⟨i1, i2, i3, i4, (iR.alloc hB _).below hB1 (by simp; omega), by omega⟩).mono ?_
    rintro e w2 ⟨rfl, hB2⟩
    go_wp2
    go_ret
    exact ⟨by rw [HE.out]; rfl, Below.trans (Below.trans ((Below.refl _ _).alloc (Nat.le_refl _) _) (hB1.mono (by simp))) (hB2.mono (by omega))⟩
  · have h1 : (openFaceE j face != 0) = true := by simpa using h0
    have HE : Hid (faceSetupsE j face l = openFaceE j face) := by unfold faceSetupsE; rw [if_neg h0]; rfl
    have H0 := Lib.hid h0; clear h0
    go_enter Tryz.func29, Tryz.ntmps29
    go_wp2_with fail
    refine (openFace_any j face A c B _ k1 k2 k3 k4 (hR.alloc hB _) (by simp; omega)).mono ?_
    rintro e w1 ⟨rfl, hB1⟩; obtain ⟨hc1, hf1⟩ := bcell hB1; have hz1 := hB1.size; (try simp at hz1)
    go_wp2
    go_ret
    exact ⟨by rw [HE.out]; rfl, (by repeat (first | (with_reducible exact Below.refl _ _) | (with_reducible assumption) | ((with_reducible refine Below.setCell ?_ ?_ _); rotate_left; · (first | exact Nat.le_refl _ | (simp; done) | (simp; omega) | omega)) | ((with_reducible refine Below.alloc ?_ ?_ _); rotate_left; · (first | exact Nat.le_refl _ | (simp; done) | (simp; omega) | omega)) | (with_reducible apply Below.drew) | (with_reducible apply below_drewN') | (refine Below.trans ?_ (Below.mono (by assumption) (by first | exact Nat.le_refl _ | (simp; done) | (simp; omega) | omega))) | exact Below.refl _ _ | assumption))⟩
end Go.Proofs.YtlnkgjkjdllckaaGreatDoor
