/- Contract: Bevelled. -/
import Derived.Test.YtfbnpfhnffahdaaGreatDoorCvM
namespace Go.Proofs.YtfbnpfhnffahdaaGreatDoor
open Go.RowKit

/-- What is asked for a bevelled joint. -/
structure Bv where
  thick : Int
  zone : Int
  gap : Int
  land : Int
  tn : Int
  td : Int
deriving DecidableEq
def bvC (nm : ByteArray) (b : Bv) : Array Value := #[.string nm, .int .i64 b.thick, .int .i64 b.zone, .int .i64 b.gap, .int .i64 b.land, .int .i64 b.tn, .int .i64 b.td]
theorem bv_cells {w : World} {g : Nat} {nm : ByteArray} {b : Bv} (h : Blk w g 28 (bvC nm b)) :
    w.cell? ⟨g, 0, none⟩ = some (.string nm) ∧ w.cell? ⟨g, 1, none⟩ = some (.int .i64 b.thick) ∧ w.cell? ⟨g, 2, none⟩ = some (.int .i64 b.zone) ∧ w.cell? ⟨g, 3, none⟩ = some (.int .i64 b.gap) ∧
      w.cell? ⟨g, 4, none⟩ = some (.int .i64 b.land) ∧ w.cell? ⟨g, 5, none⟩ = some (.int .i64 b.tn) ∧ w.cell? ⟨g, 6, none⟩ = some (.int .i64 b.td) :=
  ⟨h.cell 0, h.cell 1, h.cell 2, h.cell 3, h.cell 4, h.cell 5, h.cell 6⟩
structure Bv.wf (b : Bv) : Prop where
  thick : I64 b.thick
  zone : I64 b.zone
  gap : I64 b.gap
  land : I64 b.land
  tn : I64 b.tn
  td : I64 b.td
def Bv.depth (b : Bv) : Int := b.thick - b.land
def Bv.wide (b : Bv) : Int := b.gap + b.depth * b.tn / b.td
def bvB (b : Bv) : Bool := wi b.thick 1 20000 && (wi b.zone 0 20000 && (wi b.gap 0 20000 && wi b.land 0 b.thick))
/-- The error of a bevelled joint. -/
def bvE (nm : ByteArray) (b : Bv) : Int := if nameB nm = false then 4 else if bvB b = false then 2 else if tanE b.tn b.td ≠ 0 then tanE b.tn b.td else if 20000 < b.wide then 8 else 0
def noJo : Value := .agg #[.string ⟨#[]⟩, .int .i64 0, .int .i64 0, .slice none 0 0]
def str (l : List UInt8) : ByteArray := ⟨l.toArray⟩
/-- The faces of one half. -/
def bvF (b : Bv) (sd : ByteArray) (sg : Int) : List (ByteArray × Fc) :=
  (if 0 < b.land then [(sd ++ (⟨#[45, 108, 97, 110, 100]⟩ : ByteArray), (⟨sg * b.gap, b.thick, sg * b.gap, b.depth⟩ : Fc))] else []) ++
  (if 0 < b.depth then [(sd ++ (⟨#[45, 98, 101, 118, 101, 108]⟩ : ByteArray), (⟨sg * b.gap, b.depth, sg * b.wide, 0⟩ : Fc))] else [])
/-- The bevelled joint. -/
def bvJ (nm : ByteArray) (b : Bv) : Jo := ⟨nm, b.thick, b.zone, bvF b ⟨#[108]⟩ (-1) ++ bvF b ⟨#[114]⟩ 1⟩
/-- What Bevelled answers. -/
def BevR (nm : ByteArray) (b : Bv) (n : Nat) (e : Ending) (w' : World) : Prop :=
  (bvE nm b ≠ 0 → e = .returned (.tuple #[noJo, .int .i64 (bvE nm b)])) ∧
  (bvE nm b = 0 → ∃ v, e = .returned (.tuple #[.agg #[.string nm, .int .i64 b.thick, .int .i64 b.zone, v], .int .i64 0]) ∧ w'.ownsRow n 57 5 v (bvJ nm b).fs.length (fcsC (bvJ nm b).fs))

set_option maxRecDepth 100000 in
set_option maxHeartbeats 2000000 in
theorem bev_bad (nm : ByteArray) (b : Bv) (w : World) (hs : nm.size ≤ 1000000000000) (hw : b.wf) (hT : nameB nm = true → wi b.thick 1 20000 = true → wi b.zone 0 20000 = true → wi b.gap 0 20000 = true → wi b.land 0 b.thick = true → ¬ tanE b.tn b.td = 0) :
    Calls Tryz.prog 15 #[.agg (bvC nm b)] w fun e w' => e = .returned (.tuple #[noJo, .int .i64 (bvE nm b)]) ∧ Below w.heap.size w w' := by
  unfold bvC
  cases h1 : nameB nm
  · have H1 := Lib.hid h1; clear h1
    have HE : Hid (bvE nm b = 4) := by unfold bvE; rw [H1.out]; rfl
    go_enter Tryz.func15, Tryz.ntmps15
    go_wp2_with (go_at_call 55; refine (isName_any _ _ hs).mono ?_; rw [H1.out]; rintro e w1 ⟨rfl, hB1⟩; obtain ⟨hc1, hf1⟩ := bcell hB1; have hz1 := hB1.size; (try simp at hz1))
    refine bodyPost_ret (v := .tuple #[noJo, .int .i64 4]) ?_ rfl ⟨by rw [HE.out], (by repeat (first | (with_reducible exact Below.refl _ _) | (with_reducible assumption) | ((with_reducible refine Below.setCell ?_ ?_ _); rotate_left; · (first | exact Nat.le_refl _ | (simp; done) | (simp; omega) | omega)) | ((with_reducible refine Below.alloc ?_ ?_ _); rotate_left; · (first | exact Nat.le_refl _ | (simp; done) | (simp; omega) | omega)) | (with_reducible apply Below.drew) | (with_reducible apply below_drewN') | (refine Below.trans ?_ (Below.mono (by assumption) (by first | exact Nat.le_refl _ | (simp; done) | (simp; omega) | omega))) | exact Below.refl _ _ | assumption))⟩
    simp [results, Tryz.results15, go_sem, hc1, noJo]
  · have H1 := Lib.hid h1; clear h1
    cases t1 : wi b.thick 1 20000
    · have HE : Hid (bvE nm b = 2) := by unfold bvE bvB; rw [H1.out, t1]; rfl
      go_enter Tryz.func15, Tryz.ntmps15
      go_wp2_with (first | (go_at_call 55; refine (isName_any _ _ hs).mono ?_; rw [H1.out]; rintro e w1 ⟨rfl, hB1⟩; obtain ⟨hc1, hf1⟩ := bcell hB1; have hz1 := hB1.size; (try simp at hz1)) | (go_at_call 56; refine (within_any _ _ _ _).mono ?_; rintro e w1 ⟨rfl, rfl⟩))
      refine bodyPost_ret (v := .tuple #[noJo, .int .i64 2]) ?_ rfl ⟨by rw [HE.out], (by repeat (first | (with_reducible exact Below.refl _ _) | (with_reducible assumption) | ((with_reducible refine Below.setCell ?_ ?_ _); rotate_left; · (first | exact Nat.le_refl _ | (simp; done) | (simp; omega) | omega)) | ((with_reducible refine Below.alloc ?_ ?_ _); rotate_left; · (first | exact Nat.le_refl _ | (simp; done) | (simp; omega) | omega)) | (with_reducible apply Below.drew) | (with_reducible apply below_drewN') | (refine Below.trans ?_ (Below.mono (by assumption) (by first | exact Nat.le_refl _ | (simp; done) | (simp; omega) | omega))) | exact Below.refl _ _ | assumption))⟩
      simp [results, Tryz.results15, go_sem, hc1, noJo]
    · cases t2 : wi b.zone 0 20000
      · have HE : Hid (bvE nm b = 2) := by unfold bvE bvB; rw [H1.out, t1, t2]; rfl
        go_enter Tryz.func15, Tryz.ntmps15
        go_wp2_with (first | (go_at_call 55; refine (isName_any _ _ hs).mono ?_; rw [H1.out]; rintro e w1 ⟨rfl, hB1⟩; obtain ⟨hc1, hf1⟩ := bcell hB1; have hz1 := hB1.size; (try simp at hz1)) | (go_at_call 56; refine (within_any _ _ _ _).mono ?_; rintro e w1 ⟨rfl, rfl⟩))
        refine bodyPost_ret (v := .tuple #[noJo, .int .i64 2]) ?_ rfl ⟨by rw [HE.out], (by repeat (first | (with_reducible exact Below.refl _ _) | (with_reducible assumption) | ((with_reducible refine Below.setCell ?_ ?_ _); rotate_left; · (first | exact Nat.le_refl _ | (simp; done) | (simp; omega) | omega)) | ((with_reducible refine Below.alloc ?_ ?_ _); rotate_left; · (first | exact Nat.le_refl _ | (simp; done) | (simp; omega) | omega)) | (with_reducible apply Below.drew) | (with_reducible apply below_drewN') | (refine Below.trans ?_ (Below.mono (by assumption) (by first | exact Nat.le_refl _ | (simp; done) | (simp; omega) | omega))) | exact Below.refl _ _ | assumption))⟩
        simp [results, Tryz.results15, go_sem, hc1, noJo]
      · cases t3 : wi b.gap 0 20000
        · have HE : Hid (bvE nm b = 2) := by unfold bvE bvB; rw [H1.out, t1, t2, t3]; rfl
          go_enter Tryz.func15, Tryz.ntmps15
          go_wp2_with (first | (go_at_call 55; refine (isName_any _ _ hs).mono ?_; rw [H1.out]; rintro e w1 ⟨rfl, hB1⟩; obtain ⟨hc1, hf1⟩ := bcell hB1; have hz1 := hB1.size; (try simp at hz1)) | (go_at_call 56; refine (within_any _ _ _ _).mono ?_; rintro e w1 ⟨rfl, rfl⟩))
          refine bodyPost_ret (v := .tuple #[noJo, .int .i64 2]) ?_ rfl ⟨by rw [HE.out], (by repeat (first | (with_reducible exact Below.refl _ _) | (with_reducible assumption) | ((with_reducible refine Below.setCell ?_ ?_ _); rotate_left; · (first | exact Nat.le_refl _ | (simp; done) | (simp; omega) | omega)) | ((with_reducible refine Below.alloc ?_ ?_ _); rotate_left; · (first | exact Nat.le_refl _ | (simp; done) | (simp; omega) | omega)) | (with_reducible apply Below.drew) | (with_reducible apply below_drewN') | (refine Below.trans ?_ (Below.mono (by assumption) (by first | exact Nat.le_refl _ | (simp; done) | (simp; omega) | omega))) | exact Below.refl _ _ | assumption))⟩
          simp [results, Tryz.results15, go_sem, hc1, noJo]
        · cases t4 : wi b.land 0 b.thick
          · have HE : Hid (bvE nm b = 2) := by unfold bvE bvB; rw [H1.out, t1, t2, t3, t4]; rfl
            go_enter Tryz.func15, Tryz.ntmps15
            go_wp2_with (first | (go_at_call 55; refine (isName_any _ _ hs).mono ?_; rw [H1.out]; rintro e w1 ⟨rfl, hB1⟩; obtain ⟨hc1, hf1⟩ := bcell hB1; have hz1 := hB1.size; (try simp at hz1)) | (go_at_call 56; refine (within_any _ _ _ _).mono ?_; rintro e w1 ⟨rfl, rfl⟩))
            refine bodyPost_ret (v := .tuple #[noJo, .int .i64 2]) ?_ rfl ⟨by rw [HE.out], (by repeat (first | (with_reducible exact Below.refl _ _) | (with_reducible assumption) | ((with_reducible refine Below.setCell ?_ ?_ _); rotate_left; · (first | exact Nat.le_refl _ | (simp; done) | (simp; omega) | omega)) | ((with_reducible refine Below.alloc ?_ ?_ _); rotate_left; · (first | exact Nat.le_refl _ | (simp; done) | (simp; omega) | omega)) | (with_reducible apply Below.drew) | (with_reducible apply below_drewN') | (refine Below.trans ?_ (Below.mono (by assumption) (by first | exact Nat.le_refl _ | (simp; done) | (simp; omega) | omega))) | exact Below.refl _ _ | assumption))⟩
            simp [results, Tryz.results15, go_sem, hc1, noJo]
          · have HE : Hid (bvE nm b = if tanE b.tn b.td ≠ 0 then tanE b.tn b.td else if 20000 < b.wide then 8 else 0) := by unfold bvE bvB; rw [H1.out, t1, t2, t3, t4]; rfl
            have h5 : ¬ tanE b.tn b.td = 0 := hT H1.out t1 t2 t3 t4
            have h5' : (tanE b.tn b.td != 0) = true := by simpa using h5
            have HE2 : Hid (bvE nm b = tanE b.tn b.td) := Lib.hid (by rw [HE.out, if_pos h5])
            clear h5
            go_enter Tryz.func15, Tryz.ntmps15
            go_wp2_with (first | (go_at_call 55; refine (isName_any _ _ hs).mono ?_; rw [H1.out]; rintro e w1 ⟨rfl, hB1⟩; obtain ⟨hc1, hf1⟩ := bcell hB1; have hz1 := hB1.size; (try simp at hz1)) | (go_at_call 56; refine (within_any _ _ _ _).mono ?_; rintro e w1 ⟨rfl, rfl⟩) | fail)
            refine (tangentErr_any b.tn b.td hw.tn hw.td _).mono ?_
            rintro e w2 ⟨rfl, hB2⟩
            have br : Blk w1 (w.heap.size + 1) 24 #[.string ⟨#[]⟩, .int .i64 0, .int .i64 0, .slice none 0 0] := by refine Blk.below ?_ hB1 (by first | (simp; done) | (simp; omega)); exact (by repeat (first | assumption | apply Blk.drew | (refine Blk.new' _ _ _ ?_; first | rfl | (simp; done) | (simp; omega)) | (refine Blk.alloc ?_ _)))
            have hBB : Below w.heap.size w w1 := (by repeat (first | (with_reducible exact Below.refl _ _) | (with_reducible assumption) | ((with_reducible refine Below.setCell ?_ ?_ _); rotate_left; · (first | exact Nat.le_refl _ | (simp; done) | (simp; omega) | omega)) | ((with_reducible refine Below.alloc ?_ ?_ _); rotate_left; · (first | exact Nat.le_refl _ | (simp; done) | (simp; omega) | omega)) | (with_reducible apply Below.drew) | (with_reducible apply below_drewN') | (refine Below.trans ?_ (Below.mono (by assumption) (by first | exact Nat.le_refl _ | (simp; done) | (simp; omega) | omega))) | exact Below.refl _ _ | assumption))
            have lr := br.lt
            have br2 := br.below hB2 lr
            have lr2 := br2.lt
            have hBC := hBB.trans (hB2.mono hBB.size)
            obtain ⟨d0, d1, d2, d3, df⟩ := blk4 br2
            clear hB1 hc1 hf1 hz1
            have e6 := Blk.set4 br2 (.string ⟨#[]⟩) (.int .i64 0) (.int .i64 0) (.slice none 0 0)
            obtain ⟨z0, z1, z2, z3, _⟩ := blk4 e6
            go_wp2
            refine bodyPost_ret (v := .tuple #[noJo, .int .i64 (tanE b.tn b.td)]) ?_ rfl ⟨by rw [HE2.out], Below.set4 hBC (by omega)⟩
            simp [results, Tryz.results15, go_sem, z0, z1, z2, z3, noJo]
end Go.Proofs.YtfbnpfhnffahdaaGreatDoor
