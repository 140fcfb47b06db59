/- Contracts: the error of a face, of a joint, of a set-up, of an ask. -/
import Derived.Test.YtlnkgjkjdllckaaGreatDoorZpCvF
namespace Go.Proofs.YtlnkgjkjdllckaaGreatDoor
open Go.RowKit

/-- The cells of faces, one behind the other. -/
def fcsC (fs : List (ByteArray × Fc)) : List Value := fs.flatMap fun p => [.string p.1, .int .i64 p.2.fx, .int .i64 p.2.fz, .int .i64 p.2.tx, .int .i64 p.2.tz]
theorem fcsC_length (fs : List (ByteArray × Fc)) : (fcsC fs).length = fs.length * 5 := by
  induction fs with
  | nil => rfl
  | cons p l ih => simp only [fcsC, List.flatMap_cons, List.length_append] at ih ⊢; rw [ih]; simp; omega
theorem fcsC_get : ∀ (fs : List (ByteArray × Fc)) (k : Nat) (p : ByteArray × Fc), fs[k]? = some p →
    (fcsC fs)[k * 5]? = some (.string p.1) ∧ (fcsC fs)[k * 5 + 1]? = some (.int .i64 p.2.fx) ∧ (fcsC fs)[k * 5 + 2]? = some (.int .i64 p.2.fz) ∧ (fcsC fs)[k * 5 + 3]? = some (.int .i64 p.2.tx) ∧ (fcsC fs)[k * 5 + 4]? = some (.int .i64 p.2.tz)
  | [], k, p, h => by simp at h
  | q :: l, 0, p, h => by obtain rfl : q = p := by simpa using h
                          exact ⟨rfl, rfl, rfl, rfl, rfl⟩
  | q :: l, k + 1, p, h => by
    have ih := fcsC_get l k p (by simpa using h)
    have e : ∀ j, (fcsC (q :: l))[(k + 1) * 5 + j]? = (fcsC l)[k * 5 + j]? := fun j => by
      rw [show (k + 1) * 5 + j = (k * 5 + j) + 5 by omega]; rfl
    exact ⟨(e 0).trans ih.1, (e 1).trans ih.2.1, (e 2).trans ih.2.2.1, (e 3).trans ih.2.2.2.1, (e 4).trans ih.2.2.2.2⟩

/-- A slice that reads as a list of cells: its row lies below block B. -/
def Row (w : World) (B size : Nat) (A : Option Addr) (n : Nat) (xs : List Value) : Prop :=
  xs.length = n * size ∧ (0 < n → ∃ g o, A = some ⟨g, o, none⟩ ∧ g < B ∧ ∀ j u, xs[j]? = some u → w.cell? ⟨g, o + j, none⟩ = some u)
section
variable {w w' : World} {B B' size n : Nat} {A : Option Addr} {xs : List Value}
theorem Row.nil_ : Row w B size A 0 [] := ⟨by simp, fun h => absurd h (by omega)⟩
theorem Row.keep (h : Row w B size A n xs) (hk : ∀ b o, b < B → w'.cell? ⟨b, o, none⟩ = w.cell? ⟨b, o, none⟩) : Row w' B size A n xs :=
  ⟨h.1, fun hn => by
    obtain ⟨g, o, e, hb, hc⟩ := h.2 hn
    exact ⟨g, o, e, hb, fun j u hu => (hk _ _ hb).trans (hc j u hu)⟩⟩
theorem Row.more (h : Row w B size A n xs) (hB : B ≤ B') : Row w B' size A n xs :=
  ⟨h.1, fun hn => by
    obtain ⟨g, o, e, hb, hc⟩ := h.2 hn
    exact ⟨g, o, e, by omega, hc⟩⟩
theorem Row.below (h : Row w B size A n xs) {C : Nat} (hb : Below C w w') (hC : B ≤ C) : Row w' B size A n xs := h.keep fun b o hp => hb.cell (p := ⟨b, o, none⟩) (by simp; omega)
theorem Row.alloc (h : Row w B size A n xs) (hB : B ≤ w.heap.size) (o : Obj) : Row (w.alloc o) B size A n xs := h.keep fun b p hp => World.cell?_alloc_lt w o _ (by simp; omega)
theorem Row.setCell (h : Row w B size A n xs) {p : Addr} (hB : B ≤ p.block) (u : Value) : Row (w.setCell p u) B size A n xs :=
  h.keep fun b o hb => World.cell?_setCell_other w p _ u (fun e => by subst e; simp at hB; omega)
theorem Row.drew (h : Row w B size A n xs) : Row w.drew B size A n xs := h
theorem Row.drewN (h : Row w B size A n xs) (k : Nat) : Row (w.drewN k) B size A n xs := h
end

theorem faceCells {w : World} {B : Nat} {A : Option Addr} {fs : List (ByteArray × Fc)} (h : Row w B 5 A fs.length (fcsC fs)) {k : Nat} (hk : k < fs.length) :
    ∃ g o, A = some ⟨g, o, none⟩ ∧ g < B ∧ w.cell? ⟨g, o + k * 5, none⟩ = some (.string fs[k].1) ∧ w.cell? ⟨g, o + k * 5 + 1, none⟩ = some (.int .i64 fs[k].2.fx) ∧ w.cell? ⟨g, o + k * 5 + 2, none⟩ = some (.int .i64 fs[k].2.fz) ∧
      w.cell? ⟨g, o + k * 5 + 3, none⟩ = some (.int .i64 fs[k].2.tx) ∧ w.cell? ⟨g, o + k * 5 + 4, none⟩ = some (.int .i64 fs[k].2.tz) := by
  obtain ⟨g, o, hA, hb, hc⟩ := h.2 (by omega)
  obtain ⟨g0, g1, g2, g3, g4⟩ := fcsC_get fs k fs[k] (List.getElem?_eq_getElem hk)
  exact ⟨g, o, hA, hb, hc _ _ g0, hc _ _ g1, hc _ _ g2, hc _ _ g3, hc _ _ g4⟩

/-- Whether two texts are the same. -/
def sameB (a b : ByteArray) : Bool := a.toList == b.toList

set_option maxHeartbeats 400000 in
theorem sameName_any (nm nm' : ByteArray) (f : Fc) (b : Nat) (w : World) (hc : w.cell? ⟨b, 0, none⟩ = some (.string nm')) :
    Calls Tryz.prog 118 #[.agg (fcC nm f), .pointer (some ⟨b, 0, none⟩)] w fun e w' => e = .returned (.bool (sameB nm nm')) ∧ Below w.heap.size w w' := by
  unfold fcC
  have hlt := World.block_lt_of_cell? _ _ hc
  go_enter Tryz.func118, Tryz.ntmps118
  go_wp2
  go_ret
  exact ⟨rfl, (by repeat (first | (with_reducible exact Below.refl _ _) | (with_reducible assumption) | ((with_reducible refine Below.setCell ?_ ?_ _); rotate_left; · (first | exact Nat.le_refl _ | (simp; done) | (simp; omega) | omega)) | ((with_reducible refine Below.alloc ?_ ?_ _); rotate_left; · (first | exact Nat.le_refl _ | (simp; done) | (simp; omega) | omega)) | (with_reducible apply Below.drew) | (with_reducible apply below_drewN') | (refine Below.trans ?_ (Below.mono (by assumption) (by first | exact Nat.le_refl _ | (simp; done) | (simp; omega) | omega))) | exact Below.refl _ _ | assumption))⟩

theorem any_take_snoc {α : Type} (l : List α) (k : Nat) (h : k < l.length) (q : α → Bool) : (l.take (k + 1)).any q = ((l.take k).any q || q l[k]) := by
  rw [List.take_succ_eq_append_getElem h, List.any_append]; simp
theorem any_of_take {α : Type} (l : List α) (k : Nat) (h : k < l.length) (q : α → Bool) (hq : q l[k] = true) : l.any q = true :=
  List.any_eq_true.2 ⟨l[k], List.getElem_mem h, hq⟩

set_option maxHeartbeats 400000 in
theorem indexName_any (fs : List (ByteArray × Fc)) (A : Option Addr) (c : Nat) (nm' : ByteArray) (b B : Nat) (w : World) (hn : fs.length ≤ 1000000) (hR : Row w B 5 A fs.length (fcsC fs)) (hB : B ≤ w.heap.size) (hc : w.cell? ⟨b, 0, none⟩ = some (.string nm')) :
    Calls Tryz.prog 124 #[.slice A fs.length c, .func (.func 118) #[] #[.pointer (some ⟨b, 0, none⟩)]] w fun e w' => ∃ r : Int, e = .returned (.int .i64 r) ∧ Hid (decide (0 ≤ r) = fs.any fun p => sameB p.1 nm') ∧ Below w.heap.size w w' := by
  go_enter Tryz.func124, Tryz.ntmps124
  go_wp2
  go_loopw [8] (fun i wr => ∃ k : Nat, k ≤ fs.length ∧ i = .int .i64 k ∧ Hid ((fs.take k).any (fun p => sameB p.1 nm') = false) ∧ Below w.heap.size w wr) (fun i _ => fs.length - (intOf i).toNat)
  case atStart => exact ⟨0, Nat.zero_le _, rfl, rfl, Below.refl _ _⟩
  case round =>
    obtain ⟨k, hk, rfl, HI, hB'⟩ := hrel
    by_cases hlt : k < fs.length
    · obtain ⟨g, o, hA, hg, c0, c1, c2, c3, c4⟩ := faceCells (hR.below hB' hB) hlt
      subst hA
      have hcb := (hB'.cell (p := ⟨b, 0, none⟩) (World.block_lt_of_cell? _ _ hc)).trans hc
      cases hs : sameB fs[k].1 nm'
      · have HS := Lib.hid hs; clear hs
        go_wp2_with fail
        refine (sameName_any _ nm' fs[k].2 b _ hcb).mono ?_
        rw [HS.out]
        rintro e w1 ⟨rfl, hB1⟩; obtain ⟨hc1, hf1⟩ := bcell hB1; have hz1 := hB1.size; (try simp at hz1)
        go_wp2
        refine ⟨⟨k + 1, by omega, by go_num, by rw [any_take_snoc _ _ hlt, HI.out, HS.out]; rfl, Below.trans hB' (hB1.mono (Below.size hB'))⟩, by simp [intOf]; omega⟩
      · have HS := Lib.hid hs; clear hs
        go_wp2_with fail
        refine (sameName_any _ nm' fs[k].2 b _ hcb).mono ?_
        rw [HS.out]
        rintro e w1 ⟨rfl, hB1⟩; obtain ⟨hc1, hf1⟩ := bcell hB1; have hz1 := hB1.size; (try simp at hz1)
        go_wp2
        go_ret
        exact ⟨_, rfl, Lib.hid (by rw [any_of_take _ _ hlt _ HS.out]; simp), Below.trans hB' (hB1.mono (Below.size hB'))⟩
    · obtain rfl : k = fs.length := by omega
      go_wp2
      go_ret
      exact ⟨_, rfl, by rw [List.take_length] at HI; rw [HI.out]; rfl, hB'⟩

set_option maxHeartbeats 400000 in
theorem hasName_any (fs : List (ByteArray × Fc)) (A : Option Addr) (c : Nat) (nm' : ByteArray) (b B : Nat) (w : World) (hn : fs.length ≤ 1000000) (hR : Row w B 5 A fs.length (fcsC fs)) (hB : B ≤ w.heap.size) (hc : w.cell? ⟨b, 0, none⟩ = some (.string nm')) :
    Calls Tryz.prog 117 #[.slice A fs.length c, .func (.func 118) #[] #[.pointer (some ⟨b, 0, none⟩)]] w fun e w' => e = .returned (.bool (fs.any fun p => sameB p.1 nm')) ∧ Below w.heap.size w w' := by
  go_enter Tryz.func117, Tryz.ntmps117
  go_wp2_with fail
  refine (indexName_any fs A c nm' b B _ hn hR hB hc).mono ?_
  rintro e w1 ⟨r, rfl, HR, hB1⟩
  go_wp2
  go_ret
  exact ⟨by rw [← HR.out]; rfl, hB1⟩

theorem fc_cells {w : World} {g : Nat} {nm : ByteArray} {f : Fc} (h : Blk w g 100 (fcC nm f)) :
    w.cell? ⟨g, 0, none⟩ = some (.string nm) ∧ w.cell? ⟨g, 1, none⟩ = some (.int .i64 f.fx) ∧ w.cell? ⟨g, 2, none⟩ = some (.int .i64 f.fz) ∧ w.cell? ⟨g, 3, none⟩ = some (.int .i64 f.tx) ∧ w.cell? ⟨g, 4, none⟩ = some (.int .i64 f.tz) :=
  ⟨h.cell 0, h.cell 1, h.cell 2, h.cell 3, h.cell 4⟩

/-- The error of a face behind others. -/
def faceE (before : List (ByteArray × Fc)) (nm : ByteArray) (f : Fc) (thick : Int) : Int :=
  if !nameB nm then 4
  else if before.any (fun p => sameB p.1 nm) then 5
  else if !(wi f.fx (-20000) 20000) || !(wi f.tx (-20000) 20000) || !(wi f.fz 0 thick) || !(wi f.tz 0 thick) then 2
  else if f.fx = f.tx ∧ f.fz = f.tz then 11 else 0

set_option maxHeartbeats 1000000 in
theorem faceErr_any (before : List (ByteArray × Fc)) (A : Option Addr) (c : Nat) (nm : ByteArray) (f : Fc) (thick : Int) (B : Nat) (w : World) (hs : nm.size ≤ 1000000000000) (hn : before.length ≤ 1000000) (hR : Row w B 5 A before.length (fcsC before)) (hB : B ≤ w.heap.size) :
    Calls Tryz.prog 98 #[.slice A before.length c, .agg (fcC nm f), .int .i64 thick] w fun e w' => e = .returned (.int .i64 (faceE before nm f thick)) ∧ Below w.heap.size w w' := by
  unfold fcC
  cases h1 : nameB nm
  · have H1 := Lib.hid h1; clear h1
    have HE : Hid (faceE before nm f thick = 4) := by unfold faceE; rw [H1.out]; rfl
    go_enter Tryz.func98, Tryz.ntmps98
    go_wp2_with (go_at_call 91; refine (isName_any _ _ hs).mono ?_; rw [H1.out]; rintro e w1 ⟨rfl, hB1⟩; obtain ⟨hc1, hf1⟩ := bcell hB1; have hz1 := hB1.size; (try simp at hz1))
    go_ret
    exact ⟨by rw [HE.out]; rfl, (by repeat (first | (with_reducible exact Below.refl _ _) | (with_reducible assumption) | ((with_reducible refine Below.setCell ?_ ?_ _); rotate_left; · (first | exact Nat.le_refl _ | (simp; done) | (simp; omega) | omega)) | ((with_reducible refine Below.alloc ?_ ?_ _); rotate_left; · (first | exact Nat.le_refl _ | (simp; done) | (simp; omega) | omega)) | (with_reducible apply Below.drew) | (with_reducible apply below_drewN') | (refine Below.trans ?_ (Below.mono (by assumption) (by first | exact Nat.le_refl _ | (simp; done) | (simp; omega) | omega))) | exact Below.refl _ _ | assumption))⟩
  · cases h2 : before.any (fun p => sameB p.1 nm)
    · have H1 := Lib.hid h1; have H2 := Lib.hid h2; clear h1 h2
      have HE : Hid (faceE before nm f thick = if !(wi f.fx (-20000) 20000) || !(wi f.tx (-20000) 20000) || !(wi f.fz 0 thick) || !(wi f.tz 0 thick) then 2 else if f.fx = f.tx ∧ f.fz = f.tz then 11 else 0) := by unfold faceE; rw [H1.out, H2.out]; rfl
      go_enter Tryz.func98, Tryz.ntmps98
      go_wp2_with (go_at_call 91; refine (isName_any _ _ hs).mono ?_; rw [H1.out]; rintro e w1 ⟨rfl, hB1⟩; obtain ⟨hc1, hf1⟩ := bcell hB1; have hz1 := hB1.size; (try simp at hz1))
      have b1 : Blk w1 w.heap.size 100 (fcC nm f) := Blk.below (Blk.new w _ _) hB1 (by simp)
      refine (hasName_any before A c nm _ B _ hn ?c0 ?c1 (b1.cell 0)).mono ?_
      case c0 => exact (hR.alloc hB _).below hB1 (by simp; omega)
      case c1 => have := hB1.size; simp at this; omega
      rw [H2.out]
      rintro e w2 ⟨rfl, hB2⟩
      have b2 := b1.below hB2 b1.lt
      have hBB : Below w.heap.size w w2 := Below.trans (Below.trans (Below.alloc (Below.refl _ _) (Nat.le_refl _) _) (hB1.mono (by simp))) (hB2.mono (by have := hB1.size; simp at this; omega))
      obtain ⟨d0, d1, d2, d3, d4⟩ := fc_cells b2
      clear b1 b2 hB1 hB2 hc1 hf1
      go_wp2_with (first | (go_at_call 68; refine (small_any _ _ (by omega) (by omega) _).mono ?_; rintro e w1 ⟨rfl, rfl⟩) | (go_at_call 60; refine (within_any _ _ _ _).mono ?_; rintro e w1 ⟨rfl, rfl⟩))
      all_goals
        go_ret
        refine ⟨?_, hBB⟩
        rw [HE.out]
        show Ending.returned (Value.int _ _) = _
        congr 2
        grind
    · have H1 := Lib.hid h1; have H2 := Lib.hid h2; clear h1 h2
      have HE : Hid (faceE before nm f thick = 5) := by unfold faceE; rw [H1.out, H2.out]; rfl
      go_enter Tryz.func98, Tryz.ntmps98
      go_wp2_with (go_at_call 91; refine (isName_any _ _ hs).mono ?_; rw [H1.out]; rintro e w1 ⟨rfl, hB1⟩; obtain ⟨hc1, hf1⟩ := bcell hB1; have hz1 := hB1.size; (try simp at hz1))
      have b1 : Blk w1 w.heap.size 100 (fcC nm f) := Blk.below (Blk.new w _ _) hB1 (by simp)
      refine (hasName_any before A c nm _ B _ hn ?d0 ?d1 (b1.cell 0)).mono ?_
      case d0 => exact (hR.alloc hB _).below hB1 (by simp; omega)
      case d1 => have := hB1.size; simp at this; omega
      rw [H2.out]
      rintro e w2 ⟨rfl, hB2⟩
      have hBB : Below w.heap.size w w2 := Below.trans (Below.trans (Below.alloc (Below.refl _ _) (Nat.le_refl _) _) (hB1.mono (by simp))) (hB2.mono (by have := hB1.size; simp at this; omega))
      go_wp2
      go_ret
      exact ⟨by rw [HE.out]; rfl, hBB⟩

/-- A joint. -/
structure Jo where
  nm : ByteArray
  thick : Int
  zone : Int
  fs : List (ByteArray × Fc)
def facesE (thick : Int) : Nat → List (ByteArray × Fc) → List (ByteArray × Fc) → Int × Int
  | _, _, [] => (0, 0)
  | i, before, p :: l => if faceE before p.1 p.2 thick = 0 then facesE thick (i + 1) (before ++ [p]) l else (i, faceE before p.1 p.2 thick)
/-- The number of the first wrong face of a joint, and the error. -/
def jointE (j : Jo) : Int × Int :=
  if !nameB j.nm then (0, 4) else if !(wi j.thick 1 20000) || !(wi j.zone 0 20000) then (0, 2) else if 12 < j.fs.length then (0, 8) else facesE j.thick 0 [] j.fs
/-- A joint as a value. -/
def joC (j : Jo) (A : Option Addr) (c : Nat) : Array Value := #[.string j.nm, .int .i64 j.thick, .int .i64 j.zone, .slice A j.fs.length c]

theorem facesE_step {thick : Int} {fs : List (ByteArray × Fc)} {k : Nat} (h : k < fs.length) :
    facesE thick k (fs.take k) (fs.drop k) = if faceE (fs.take k) fs[k].1 fs[k].2 thick = 0 then facesE thick (k + 1) (fs.take (k + 1)) (fs.drop (k + 1)) else (k, faceE (fs.take k) fs[k].1 fs[k].2 thick) := by
  rw [List.drop_eq_getElem_cons h, facesE, List.take_succ_eq_append_getElem h]

theorem fcsC_take (fs : List (ByteArray × Fc)) (k : Nat) : fcsC (fs.take k) = (fcsC fs).take (k * 5) := by
  induction fs generalizing k with
  | nil => simp [fcsC]
  | cons p l ih =>
    cases k with
    | zero => simp [fcsC]
    | succ k => 
      have := ih k
      simp only [fcsC, List.take_succ_cons, List.flatMap_cons] at this ⊢
      rw [this, show (k + 1) * 5 = k * 5 + 5 by omega]
      rfl
theorem Row.take {w : World} {B : Nat} {A : Option Addr} {fs : List (ByteArray × Fc)} (h : Row w B 5 A fs.length (fcsC fs)) {k : Nat} (hk : k ≤ fs.length) : Row w B 5 A (fs.take k).length (fcsC (fs.take k)) := by
  refine ⟨fcsC_length _, fun hn => ?_⟩
  have hl : (fs.take k).length ≤ k := List.length_take_le _ _
  obtain ⟨g, o, hA, hb, hc⟩ := h.2 (by omega)
  refine ⟨g, o, hA, hb, fun j u hu => hc j u ?_⟩
  rw [fcsC_take, List.getElem?_take] at hu
  split at hu
  · exact hu
  · cases hu

theorem faceErr_at (fs : List (ByteArray × Fc)) (k : Nat) (hk : k ≤ fs.length) (A : Option Addr) (c : Nat) (nm : ByteArray) (f : Fc) (thick : Int) (B : Nat) (w : World) (hs : nm.size ≤ 1000000000000) (hn : fs.length ≤ 1000000) (hR : Row w B 5 A fs.length (fcsC fs)) (hB : B ≤ w.heap.size) :
    Calls Tryz.prog 98 #[.slice A k c, .agg (fcC nm f), .int .i64 thick] w fun e w' => e = .returned (.int .i64 (faceE (fs.take k) nm f thick)) ∧ Below w.heap.size w w' := by
  have e : (fs.take k).length = k := by simp; omega
  have h := faceErr_any (fs.take k) A c nm f thick B w hs (by omega) (hR.take hk) hB
  rw [e] at h
  exact h

theorem jo_cells {w : World} {g : Nat} {j : Jo} {A : Option Addr} {c : Nat} (h : Blk w g 24 (joC j A c)) :
    w.cell? ⟨g, 0, none⟩ = some (.string j.nm) ∧ w.cell? ⟨g, 1, none⟩ = some (.int .i64 j.thick) ∧ w.cell? ⟨g, 2, none⟩ = some (.int .i64 j.zone) ∧ w.cell? ⟨g, 3, none⟩ = some (.slice A j.fs.length c) :=
  ⟨h.cell 0, h.cell 1, h.cell 2, h.cell 3⟩

set_option maxRecDepth 100000 in
set_option maxHeartbeats 1000000 in
theorem checkJoint_any (j : Jo) (A : Option Addr) (c B : Nat) (w : World) (hs : j.nm.size ≤ 1000000000000) (hfs : ∀ p ∈ j.fs, p.1.size ≤ 1000000000000) (hn : j.fs.length ≤ c) (_hc : c ≤ 9223372036854775807) (hR : Row w B 5 A j.fs.length (fcsC j.fs)) (hB : B ≤ w.heap.size) :
    Calls Tryz.prog 73 #[.agg (joC j A c)] w fun e w' => e = .returned (.tuple #[.int .i64 (jointE j).1, .int .i64 (jointE j).2]) ∧ Below w.heap.size w w' := by
  unfold joC
  cases h1 : nameB j.nm
  · have H1 := Lib.hid h1; clear h1
    have HE : Hid (jointE j = (0, 4)) := by unfold jointE; rw [H1.out]; rfl
    go_enter Tryz.func73, Tryz.ntmps73
    go_wp2_with (go_at_call 91; refine (isName_any _ _ hs).mono ?_; rw [H1.out]; rintro e w1 ⟨rfl, hB1⟩; obtain ⟨hc1, hf1⟩ := bcell hB1; have hz1 := hB1.size; (try simp at hz1))
    go_ret2
    exact ⟨by rw [HE.out]; rfl, (by repeat (first | (with_reducible exact Below.refl _ _) | (with_reducible assumption) | ((with_reducible refine Below.setCell ?_ ?_ _); rotate_left; · (first | exact Nat.le_refl _ | (simp; done) | (simp; omega) | omega)) | ((with_reducible refine Below.alloc ?_ ?_ _); rotate_left; · (first | exact Nat.le_refl _ | (simp; done) | (simp; omega) | omega)) | (with_reducible apply Below.drew) | (with_reducible apply below_drewN') | (refine Below.trans ?_ (Below.mono (by assumption) (by first | exact Nat.le_refl _ | (simp; done) | (simp; omega) | omega))) | exact Below.refl _ _ | assumption))⟩
  · have H1 := Lib.hid h1; clear h1
    cases t1 : wi j.thick 1 20000
    · have HE : Hid (jointE j = (0, 2)) := by unfold jointE; rw [H1.out, t1]; rfl
      go_enter Tryz.func73, Tryz.ntmps73
      go_wp2_with (first | (go_at_call 91; refine (isName_any _ _ hs).mono ?_; rw [H1.out]; rintro e w1 ⟨rfl, hB1⟩; obtain ⟨hc1, hf1⟩ := bcell hB1; have hz1 := hB1.size; (try simp at hz1)) | (go_at_call 60; refine (within_any _ _ _ _).mono ?_; rintro e w1 ⟨rfl, rfl⟩))
      go_ret2
      exact ⟨by rw [HE.out]; rfl, (by repeat (first | (with_reducible exact Below.refl _ _) | (with_reducible assumption) | ((with_reducible refine Below.setCell ?_ ?_ _); rotate_left; · (first | exact Nat.le_refl _ | (simp; done) | (simp; omega) | omega)) | ((with_reducible refine Below.alloc ?_ ?_ _); rotate_left; · (first | exact Nat.le_refl _ | (simp; done) | (simp; omega) | omega)) | (with_reducible apply Below.drew) | (with_reducible apply below_drewN') | (refine Below.trans ?_ (Below.mono (by assumption) (by first | exact Nat.le_refl _ | (simp; done) | (simp; omega) | omega))) | exact Below.refl _ _ | assumption))⟩
    · cases t2 : wi j.zone 0 20000
      · have HE : Hid (jointE j = (0, 2)) := by unfold jointE; rw [H1.out, t1, t2]; rfl
        go_enter Tryz.func73, Tryz.ntmps73
        go_wp2_with (first | (go_at_call 91; refine (isName_any _ _ hs).mono ?_; rw [H1.out]; rintro e w1 ⟨rfl, hB1⟩; obtain ⟨hc1, hf1⟩ := bcell hB1; have hz1 := hB1.size; (try simp at hz1)) | (go_at_call 60; refine (within_any _ _ _ _).mono ?_; rintro e w1 ⟨rfl, rfl⟩))
        go_ret2
        exact ⟨by rw [HE.out]; rfl, (by repeat (first | (with_reducible exact Below.refl _ _) | (with_reducible assumption) | ((with_reducible refine Below.setCell ?_ ?_ _); rotate_left; · (first | exact Nat.le_refl _ | (simp; done) | (simp; omega) | omega)) | ((with_reducible refine Below.alloc ?_ ?_ _); rotate_left; · (first | exact Nat.le_refl _ | (simp; done) | (simp; omega) | omega)) | (with_reducible apply Below.drew) | (with_reducible apply below_drewN') | (refine Below.trans ?_ (Below.mono (by assumption) (by first | exact Nat.le_refl _ | (simp; done) | (simp; omega) | omega))) | exact Below.refl _ _ | assumption))⟩
      · by_cases t3 : 12 < j.fs.length
        · have HE : Hid (jointE j = (0, 8)) := by unfold jointE; rw [H1.out, t1, t2, if_pos t3]; rfl
          have t3' : (12 : Int) < (j.fs.length : Int) := by omega
          go_enter Tryz.func73, Tryz.ntmps73
          go_wp2_with (first | (go_at_call 91; refine (isName_any _ _ hs).mono ?_; rw [H1.out]; rintro e w1 ⟨rfl, hB1⟩; obtain ⟨hc1, hf1⟩ := bcell hB1; have hz1 := hB1.size; (try simp at hz1)) | (go_at_call 60; refine (within_any _ _ _ _).mono ?_; rintro e w1 ⟨rfl, rfl⟩))
          go_ret2
          exact ⟨by rw [HE.out]; rfl, (by repeat (first | (with_reducible exact Below.refl _ _) | (with_reducible assumption) | ((with_reducible refine Below.setCell ?_ ?_ _); rotate_left; · (first | exact Nat.le_refl _ | (simp; done) | (simp; omega) | omega)) | ((with_reducible refine Below.alloc ?_ ?_ _); rotate_left; · (first | exact Nat.le_refl _ | (simp; done) | (simp; omega) | omega)) | (with_reducible apply Below.drew) | (with_reducible apply below_drewN') | (refine Below.trans ?_ (Below.mono (by assumption) (by first | exact Nat.le_refl _ | (simp; done) | (simp; omega) | omega))) | exact Below.refl _ _ | assumption))⟩
        · have HE : Hid (jointE j = facesE j.thick 0 (j.fs.take 0) (j.fs.drop 0)) := by unfold jointE; rw [H1.out, t1, t2, if_neg t3]; rfl
          have t3' : (j.fs.length : Int) ≤ 12 := by omega
          clear t3
          go_enter Tryz.func73, Tryz.ntmps73
          go_wp2_with (first | (go_at_call 91; refine (isName_any _ _ hs).mono ?_; rw [H1.out]; rintro e w1 ⟨rfl, hB1⟩; obtain ⟨hc1, hf1⟩ := bcell hB1; have hz1 := hB1.size; (try simp at hz1)) | (go_at_call 60; refine (within_any _ _ _ _).mono ?_; rintro e w1 ⟨rfl, rfl⟩))
          have b1 : Blk w1 w.heap.size 24 (joC j A c) := Blk.below (Blk.new w _ _) hB1 (by simp)
          have hBB : Below w.heap.size w w1 := Below.trans (Below.alloc (Below.refl _ _) (Nat.le_refl _) _) (hB1.mono (by simp))
          clear hc1 hf1
          go_loopw [31] (fun i wr => ∃ k : Nat, k ≤ j.fs.length ∧ i = .int .i64 k ∧ Hid (jointE j = facesE j.thick k (j.fs.take k) (j.fs.drop k)) ∧ Blk wr w.heap.size 24 (joC j A c) ∧ Below w.heap.size w wr) (fun i _ => j.fs.length - (intOf i).toNat)
          case atStart => exact ⟨0, Nat.zero_le _, rfl, HE, b1, hBB⟩
          case round =>
            clear b1 hBB hB1 HE
            obtain ⟨k, hk, rfl, HI, b1, hBB⟩ := hrel
            by_cases hlt : k < j.fs.length
            · obtain ⟨g, o, hA, hg, c0, c1, c2, c3, c4⟩ := faceCells (hR.below hBB hB) hlt
              subst hA
              obtain ⟨q0, q1, q2, q3⟩ := jo_cells b1
              have hsz : j.fs[k].1.size ≤ 1000000000000 := hfs _ (List.getElem_mem hlt)
              have lb := b1.lt
              have hkc : k ≤ c := by omega
              have hkc1 : (k : Int) ≤ (c : Int) := by omega
              have hkc0 : (0 : Int) ≤ (k : Int) := by omega
              go_wp2_with fail
              refine wp_region_b 9 (by kernel_rfl) (by kernel_rfl) ?_; simp only [List.take, List.drop]
              repeat (first
                | (apply StepsD.run
                   · go_simp
                     done
                   · intro w' hS K hK
                     have hc := (bcell hS).1
                     have hf := (bcell hS).2
                     have hz := hS.size
                     try simp at hz
                     go_simp
                     try go_bits
                     first
                       | exact hK _ hS
                       | (go_at_call 98; refine (faceErr_at j.fs k hk _ _ _ j.fs[k].2 _ B _ hsz (by omega) (((hR.below hBB hB).alloc (by omega) _).below hS (by simp; omega)) (by omega)).mono ?_; rintro e w1 ⟨rfl, hB1⟩; obtain ⟨hc1, hf1⟩ := bcell hB1; have hz1 := hB1.size; (try simp at hz1); exact hK _ (Below.trans hS (Below.mono hB1 (by first | exact Nat.le_refl _ | (simp; done) | (simp; omega) | omega))))
                       | exact hK _ (by repeat (first | (with_reducible exact Below.refl _ _) | (with_reducible assumption) | ((with_reducible refine Below.setCell ?_ ?_ _); rotate_left; · (first | exact Nat.le_refl _ | (simp; done) | (simp; omega) | omega)) | ((with_reducible refine Below.alloc ?_ ?_ _); rotate_left; · (first | exact Nat.le_refl _ | (simp; done) | (simp; omega) | omega)) | (with_reducible apply Below.drew) | (with_reducible apply below_drewN') | (refine Below.trans ?_ (Below.mono (by assumption) (by first | exact Nat.le_refl _ | (simp; done) | (simp; omega) | omega))) | exact Below.refl _ _ | assumption))
                   · simp [Act.put]
                     done)
                | (apply StepsD.pass
                   · first | (go_simp; done) | rfl
                   · simp only [Act.put, List.setIfInBounds_toArray, List.set_cons_succ, List.set_cons_zero]
                     rfl))
              refine StepsD.done ?_
              intro w' hS; have hc := (bcell hS).1; have hf := (bcell hS).2; have hz := hS.size; (try simp at hz)
              have hz := hS.size
              simp at hz
              have hb' : Blk w' w.heap.size 24 (joC j (some ⟨g, o, none⟩) c) := (b1.alloc _).below hS (by simp; omega)
              have hBw : Below w.heap.size w w' := Below.trans (Below.alloc hBB (Below.size hBB) _) (hS.mono (by have := Below.size hBB; simp; omega))
              have HS := facesE_step (thick := j.thick) hlt
              have HS := Lib.hid (HI.out.trans HS)
              clear hc hf
              by_cases hz0 : faceE (j.fs.take k) j.fs[k].1 j.fs[k].2 j.thick = 0
              · rw [if_pos hz0] at HS
                have hz1 : (faceE (j.fs.take k) j.fs[k].1 j.fs[k].2 j.thick != 0) = false := by simpa using hz0
                have HZ := Lib.hid hz0; clear hz0
                go_wp2
                refine ⟨⟨k + 1, by omega, by go_num, HS, hb', hBw⟩, by simp [intOf]; omega⟩
              · rw [if_neg hz0] at HS
                have hz1 : (faceE (j.fs.take k) j.fs[k].1 j.fs[k].2 j.thick != 0) = true := by simpa using hz0
                have HZ := Lib.hid hz0; clear hz0
                go_wp2
                go_ret2
                exact ⟨by rw [HS.out]; rfl, hBw⟩
            · obtain rfl : k = j.fs.length := by omega
              go_wp2
              go_ret2
              exact ⟨by rw [HI.out, List.drop_length]; rfl, hBB⟩
end Go.Proofs.YtlnkgjkjdllckaaGreatDoor
