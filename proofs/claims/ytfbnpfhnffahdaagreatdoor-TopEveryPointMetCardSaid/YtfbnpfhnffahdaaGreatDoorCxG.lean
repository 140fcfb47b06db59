/- Contracts: the place of a point of a face; whether a place is near a face, and in the zone. Contracts: whether a place is near a face, and in the zone. Contracts: whether a place is in the zone; the reference's near, zone and place of a point. -/
import Derived.Test.YtfbnpfhnffahdaaGreatDoorCvY
import Derived.Test.YtfbnpfhnffahdaaGreatDoorCxF
namespace Go.Proofs.YtfbnpfhnffahdaaGreatDoor
open Go.RowKit

/-- A quotient to the nearest whole number, halves up. -/
def rndV (n d : Int) : Int := (2 * n + d) / (2 * d)

set_option maxHeartbeats 400000 in
theorem rounded_any (n d : Int) (hn : -1000000000000000000 ≤ n ∧ n ≤ 1000000000000000000) (hd : 1 ≤ d ∧ d ≤ 1000000000000000000) (w : World) :
    Calls Tryz.prog 75 #[.int .i64 n, .int .i64 d] w fun e w' => e = .returned (.int .i64 (rndV n d)) ∧ w = w' := by
  have h0 : (2 * d == 0) = false := by simp; omega
  have hb : -4000000000000000000 ≤ (2 * n + d).tdiv (2 * d) ∧ (2 * n + d).tdiv (2 * d) ≤ 4000000000000000000 := by have := td_bd (2 * n + d) (2 * d); omega
  go_enter Tryz.func75, Tryz.ntmps75
  go_wp2
  · go_ret
    exact ⟨by unfold rndV; rw [floor_neg (2 * n + d) (2 * d) (by omega) (by assumption)]; rfl, rfl⟩
  · go_ret
    exact ⟨by unfold rndV; rw [floor_pos (2 * n + d) (2 * d) (by omega) (by assumption)]; rfl, rfl⟩

/-- The share of a way. -/
def atV (a b n d : Int) : Int := rndV (a * d + (b - a) * n) d
theorem at_bd {a b n d : Int} (ha : -20000 ≤ a ∧ a ≤ 20000) (hb : -20000 ≤ b ∧ b ≤ 20000) (hn : 0 ≤ n ∧ n ≤ 1000000000000) (hd : 1 ≤ d ∧ d ≤ 1000000000000) : (-20000000000000000 ≤ a * d ∧ a * d ≤ 20000000000000000) ∧ (-40000000000000000 ≤ (b - a) * n ∧ (b - a) * n ≤ 40000000000000000) := by
  have h1 := mul_bd a d 20000 1000000000000 ha (by omega)
  have h2 := mul_bd (b - a) n 40000 1000000000000 (by omega) (by omega)
  constructor <;> constructor <;> omega

set_option maxHeartbeats 400000 in
theorem at_any (a b n d : Int) (g : Nat) (ha : -20000 ≤ a ∧ a ≤ 20000) (hb : -20000 ≤ b ∧ b ≤ 20000) (hn : 0 ≤ n ∧ n ≤ 1000000000000) (hd : 1 ≤ d ∧ d ≤ 1000000000000) (w : World) (h0 : w.cell? ⟨g, 0, none⟩ = some (.int .i64 n)) (h1 : w.cell? ⟨g, 1, none⟩ = some (.int .i64 d)) :
    Calls Tryz.prog 74 #[.int .i64 a, .int .i64 b, .pointer (some ⟨g, 0, none⟩)] w fun e w' => e = .returned (.int .i64 (atV a b n d)) ∧ w = w' := by
  have hg := World.block_lt_of_cell? _ _ h0
  obtain ⟨q1, q2⟩ := at_bd ha hb hn hd
  go_enter Tryz.func74, Tryz.ntmps74
  go_wp2_with (go_at_call 75; refine (rounded_any _ _ ⟨by omega, by omega⟩ ⟨by omega, by omega⟩ _).mono ?_; rintro e w1 ⟨rfl, rfl⟩)
  go_ret
  exact ⟨rfl, rfl⟩

/-- The place of a point of a face, or the error. -/
structure SR where
  x : Int
  z : Int
  e : Int
deriving DecidableEq
def srC (r : SR) : Value := .tuple #[.agg #[.int .i64 r.x, .int .i64 r.z], .int .i64 r.e]
def spotR (j : Jo) (face n d : Int) : SR := if openFaceE j face = 0 then (if ptE n d = 0 then ⟨atV (faceAt j face).fx (faceAt j face).tx n d, atV (faceAt j face).fz (faceAt j face).tz n d, 0⟩ else ⟨0, 0, ptE n d⟩) else ⟨0, 0, openFaceE j face⟩

theorem pt_zero {n d : Int} (h : ptE n d = 0) : 0 ≤ n ∧ n ≤ d ∧ 0 < d ∧ d ≤ 1000000000000 := by
  unfold ptE lowB at h
  split at h
  · rename_i h1
    split at h
    · rename_i h2
      simp at h1
      simp [wi] at h2
      exact ⟨by omega, by omega, by omega, by omega⟩
    · simp at h
  · simp at h
theorem face_bd {j : Jo} {face : Int} (h : openFaceE j face = 0) : (-20000 ≤ (faceAt j face).fx ∧ (faceAt j face).fx ≤ 20000) ∧ (-20000 ≤ (faceAt j face).tx ∧ (faceAt j face).tx ≤ 20000) ∧ (0 ≤ (faceAt j face).fz ∧ (faceAt j face).fz ≤ 20000) ∧ (0 ≤ (faceAt j face).tz ∧ (faceAt j face).tz ≤ 20000) := by
  obtain ⟨h3, k, rfl, hk, he⟩ := openFaceE_zero h
  obtain ⟨a1, a2, a3, a4, a5, a6⟩ := jointE_zero h3
  obtain ⟨b1, b2, b3, b4, b5, b6, b7, b8, b9⟩ := faceE_zero (a6 k hk)
  rw [he]
  exact ⟨⟨b1, b2⟩, ⟨b3, b4⟩, ⟨b5, by omega⟩, ⟨b7, by omega⟩⟩
theorem Below.set2 {n g : Nat} {a b : World} {u0 u1 : Value} (h : Below n a b) (hg : n ≤ g) : Below n a ((b.setCell ⟨g, 0, none⟩ u0).setCell ⟨g, 1, none⟩ u1) := (h.setCell hg _).setCell hg _

set_option maxRecDepth 100000 in
set_option maxHeartbeats 1000000 in
theorem spotAt_any (j : Jo) (face n d : Int) (A : Option Addr) (c B : Nat) (w : World) (hj : JoOk j A c B w) (hn : I64 n) (hd : I64 d) :
    Calls Tryz.prog 36 #[.agg (joC j A c), .int .i64 face, .agg #[.int .i64 n, .int .i64 d]] w fun e w' => e = .returned (srC (spotR j face n d)) ∧ Below w.heap.size w w' := by
  have hj0 := hj
  obtain ⟨k1, k2, k3, k4, hR, hB⟩ := hj
  unfold joC
  have b0 := ((Blk.new w 24 #[.string j.nm, .int .i64 j.thick, .int .i64 j.zone, .slice A j.fs.length c]).alloc (.cells #[.int .i64 n, .int .i64 d] 49 (0, 0))).alloc (.cells #[.int .i64 0, .int .i64 0] 55 (0, 0))
  have y0 := (Blk.new' (w.alloc (.cells #[.string j.nm, .int .i64 j.thick, .int .i64 j.zone, .slice A j.fs.length c] 24)) 49 #[.int .i64 n, .int .i64 d] (g := w.heap.size + 1) (by simp)).alloc (.cells #[.int .i64 0, .int .i64 0] 55 (0, 0))
  have x0 := Blk.new' ((w.alloc (.cells #[.string j.nm, .int .i64 j.thick, .int .i64 j.zone, .slice A j.fs.length c] 24)).alloc (.cells #[.int .i64 n, .int .i64 d] 49)) 55 #[.int .i64 0, .int .i64 0] (g := w.heap.size + 1 + 1) (by simp)
  have hB0 : Below w.heap.size w (((w.alloc (.cells #[.string j.nm, .int .i64 j.thick, .int .i64 j.zone, .slice A j.fs.length c] 24)).alloc (.cells #[.int .i64 n, .int .i64 d] 49)).alloc (.cells #[.int .i64 0, .int .i64 0] 55)) := (((Below.refl _ _).alloc (Nat.le_refl _) _).alloc (by simp) _).alloc (by simp; omega) _
  have hj1 := hj0.below hB0 hB
  by_cases h0 : openFaceE j face = 0
  case neg =>
    have h1 : (openFaceE j face != 0) = true := by simpa using h0
    have HE : Hid (spotR j face n d = ⟨0, 0, openFaceE j face⟩) := by unfold spotR; rw [if_neg h0]; rfl
    clear h0
    go_enter Tryz.func36, Tryz.ntmps36
    go_wp2_with fail
    refine (openFace_any j face A c B _ hj1.nm hj1.fs hj1.len hj1.cap hj1.row hj1.base).mono ?_
    rintro e w1 ⟨rfl, hB1⟩
    have x1 := x0.gr hB1
    have hBB := hB0.trans (hB1.mono (Below.size hB0))
    clear b0 y0 x0 hB0 hj1 hB1
    have lx := x1.lt
    obtain ⟨z0, z1⟩ : w1.cell? ⟨w.heap.size + 1 + 1, 0, none⟩ = some (.int .i64 0) ∧ w1.cell? ⟨w.heap.size + 1 + 1, 1, none⟩ = some (.int .i64 0) := ⟨x1.cell 0, x1.cell 1⟩
    have zf := x1.frozen
    have x2 := (x1.set_ 0 (.int .i64 0)).set_ 1 (.int .i64 0)
    go_wp2
    have v0 := x2.cell 0
    have v1 := x2.cell 1
    refine bodyPost_ret (v := srC ⟨0, 0, openFaceE j face⟩) ?_ rfl ⟨by rw [HE.out], Below.set2 hBB (by omega)⟩
    simp [results, Tryz.results36, go_sem, srC] at v0 v1 ⊢
    simp [v0, v1]
  case pos =>
    have h1 : (openFaceE j face != 0) = false := by simpa using h0
    by_cases p0 : ptE n d = 0
    case neg =>
      have p1 : (ptE n d != 0) = true := by simpa using p0
      have HE : Hid (spotR j face n d = ⟨0, 0, ptE n d⟩) := by unfold spotR; rw [if_pos h0, if_neg p0]; rfl
      clear h0 p0
      go_enter Tryz.func36, Tryz.ntmps36
      go_wp2_with fail
      refine (openFace_any j face A c B _ hj1.nm hj1.fs hj1.len hj1.cap hj1.row hj1.base).mono ?_
      rintro e w1 ⟨rfl, hB1⟩
      have x1 := x0.gr hB1
      have y1 := y0.gr hB1
      have hBB := hB0.trans (hB1.mono (Below.size hB0))
      clear b0 y0 x0 hB0 hj1 hB1
      have ly := y1.lt
      have u0 : w1.cell? ⟨w.heap.size + 1, 0, none⟩ = some (.int .i64 n) := y1.cell 0
      have u1 : w1.cell? ⟨w.heap.size + 1, 1, none⟩ = some (.int .i64 d) := y1.cell 1
      go_wp2_with fail
      refine (pointErr_any n d hn hd _).mono ?_
      rintro e w2 ⟨rfl, hB2⟩
      have x1 := x1.gr hB2
      have hBB := hBB.trans (hB2.mono (Below.size hBB))
      clear hB2 y1 ly u0 u1
      have lx := x1.lt
      obtain ⟨z0, z1⟩ : w2.cell? ⟨w.heap.size + 1 + 1, 0, none⟩ = some (.int .i64 0) ∧ w2.cell? ⟨w.heap.size + 1 + 1, 1, none⟩ = some (.int .i64 0) := ⟨x1.cell 0, x1.cell 1⟩
      have zf := x1.frozen
      have x2 := (x1.set_ 0 (.int .i64 0)).set_ 1 (.int .i64 0)
      go_wp2
      have v0 := x2.cell 0
      have v1 := x2.cell 1
      refine bodyPost_ret (v := srC ⟨0, 0, ptE n d⟩) ?_ rfl ⟨by rw [HE.out], Below.set2 hBB (by omega)⟩
      simp [results, Tryz.results36, go_sem, srC] at v0 v1 ⊢
      simp [v0, v1]
    case pos =>
      have p1 : (ptE n d != 0) = false := by simpa using p0
      have HE : Hid (spotR j face n d = ⟨atV (faceAt j face).fx (faceAt j face).tx n d, atV (faceAt j face).fz (faceAt j face).tz n d, 0⟩) := by unfold spotR; rw [if_pos h0, if_pos p0]; rfl
      obtain ⟨q1, q2, q3, q4⟩ := pt_zero p0
      obtain ⟨f1, f2, f3, f4⟩ := face_bd h0
      obtain ⟨h3, k, rfl, hk, he⟩ := openFaceE_zero h0
      rw [he] at HE f1 f2 f3 f4
      clear h0 p0 he h3
      go_enter Tryz.func36, Tryz.ntmps36
      go_wp2_with fail
      refine (openFace_any j k A c B _ hj1.nm hj1.fs hj1.len hj1.cap hj1.row hj1.base).mono ?_
      rintro e w1 ⟨rfl, hB1⟩
      have x1 := x0.gr hB1
      have y1 := y0.gr hB1
      have b1 := b0.gr hB1
      have hBB := hB0.trans (hB1.mono (Below.size hB0))
      clear b0 y0 x0 hB0 hj1 hB1
      have ly := y1.lt
      have u0 : w1.cell? ⟨w.heap.size + 1, 0, none⟩ = some (.int .i64 n) := y1.cell 0
      have u1 : w1.cell? ⟨w.heap.size + 1, 1, none⟩ = some (.int .i64 d) := y1.cell 1
      go_wp2_with fail
      refine (pointErr_any n d hn hd _).mono ?_
      rintro e w2 ⟨rfl, hB2⟩
      have x1 := x1.gr hB2
      have y1 := y1.gr hB2
      have b1 := b1.gr hB2
      have hBB := hBB.trans (hB2.mono (Below.size hBB))
      clear hB2 ly u0 u1
      obtain ⟨g, o, hA, hg, c0, c1, c2, c3, c4⟩ := faceCells (hR.below hBB hB) hk
      subst hA
      have lb := b1.lt
      have lx := x1.lt
      have ly := y1.lt
      have lg : g < w2.heap.size := by have := Below.size hBB; omega
      obtain ⟨t0, t1, t2, t3⟩ := jo_cells b1
      have hkc1 : (k : Int) < (j.fs.length : Int) := by omega
      have hkc0 : (0 : Int) ≤ (k : Int) := by omega
      have zf := x1.frozen
      go_wp2_with fail
      have yA := y1.alloc (.cells #[.string j.fs[k].1, .int .i64 j.fs[k].2.fx, .int .i64 j.fs[k].2.fz, .int .i64 j.fs[k].2.tx, .int .i64 j.fs[k].2.tz] 57 (0, 0))
      have xA := x1.alloc (.cells #[.string j.fs[k].1, .int .i64 j.fs[k].2.fx, .int .i64 j.fs[k].2.fz, .int .i64 j.fs[k].2.tx, .int .i64 j.fs[k].2.tz] 57 (0, 0))
      have zA := Blk.new w2 57 #[.string j.fs[k].1, .int .i64 j.fs[k].2.fx, .int .i64 j.fs[k].2.fz, .int .i64 j.fs[k].2.tx, .int .i64 j.fs[k].2.tz]
      have hBA := hBB.alloc (Below.size hBB) (.cells #[.string j.fs[k].1, .int .i64 j.fs[k].2.fx, .int .i64 j.fs[k].2.fz, .int .i64 j.fs[k].2.tx, .int .i64 j.fs[k].2.tz] 57 (0, 0))
      generalize w2.alloc (.cells #[.string j.fs[k].1, .int .i64 j.fs[k].2.fx, .int .i64 j.fs[k].2.fz, .int .i64 j.fs[k].2.tx, .int .i64 j.fs[k].2.tz] 57 (0, 0)) = wA at *
      generalize w2.heap.size = p at *
      clear c0 c1 c2 c3 c4 t0 t1 t2 t3 b1 x1 y1 hBB lb lx ly lg zf hkc1 hkc0 hR hj0
      generalize j.fs[k].2 = f at *
      obtain ⟨fx, fz, tx, tz⟩ := f
      dsimp only at *
      have lx := xA.lt
      have ly := yA.lt
      have lz := zA.lt
      obtain ⟨v0, v1, v2, v3, v4⟩ : wA.cell? ⟨p, 0, none⟩ = some (.string j.fs[k].1) ∧ wA.cell? ⟨p, 1, none⟩ = some (.int .i64 fx) ∧ wA.cell? ⟨p, 2, none⟩ = some (.int .i64 fz) ∧ wA.cell? ⟨p, 3, none⟩ = some (.int .i64 tx) ∧ wA.cell? ⟨p, 4, none⟩ = some (.int .i64 tz) := ⟨zA.cell 0, zA.cell 1, zA.cell 2, zA.cell 3, zA.cell 4⟩
      refine wp_region_b 17 (by kernel_rfl) (by kernel_rfl) ?_; simp only [List.take, List.drop]
      repeat (first
        | (apply StepsD.run
           · go_simp
             done
           · intro w' hS K hK
             have hc := (bcell hS).1
             have hf := (bcell hS).2
             have hz := hS.size
             try simp at hz
             go_simp
             try go_bits
             first
               | exact hK _ hS
               | (go_at_call 74; refine (at_any _ _ _ _ _ ⟨by omega, by omega⟩ ⟨by omega, by omega⟩ ⟨by omega, by omega⟩ ⟨by omega, by omega⟩ _ ((yA.gr hS).cell 0) ((yA.gr hS).cell 1)).mono ?_; rintro e w1 ⟨rfl, rfl⟩; exact hK _ hS)
               | exact hK _ (by repeat (first | (with_reducible exact Below.refl _ _) | (with_reducible assumption) | ((with_reducible refine Below.setCell ?_ ?_ _); rotate_left; · (first | exact Nat.le_refl _ | (simp; done) | (simp; omega) | omega)) | ((with_reducible refine Below.alloc ?_ ?_ _); rotate_left; · (first | exact Nat.le_refl _ | (simp; done) | (simp; omega) | omega)) | (with_reducible apply Below.drew) | (with_reducible apply below_drewN') | (refine Below.trans ?_ (Below.mono (by assumption) (by first | exact Nat.le_refl _ | (simp; done) | (simp; omega) | omega))) | exact Below.refl _ _ | assumption))
           · simp [Act.put]
             done)
        | (apply StepsD.pass
           · go_simp
             done
           · simp only [Act.put, List.setIfInBounds_toArray, List.set_cons_succ, List.set_cons_zero]
             rfl))
      refine StepsD.done ?_
      intro w' hS; have hc := (bcell hS).1; have hf := (bcell hS).2; have hz := hS.size; (try simp at hz)
      have xB := xA.gr hS
      have hBC := hBA.trans (Below.mono hS (Below.size hBA))
      clear hc hf
      have zf := xB.frozen
      obtain ⟨z0, z1⟩ : w'.cell? ⟨w.heap.size + 1 + 1, 0, none⟩ = some (.int .i64 0) ∧ w'.cell? ⟨w.heap.size + 1 + 1, 1, none⟩ = some (.int .i64 0) := ⟨xB.cell 0, xB.cell 1⟩
      have lx := xB.lt
      have x2 := (xB.set_ 0 (.int .i64 (atV fx tx n d))).set_ 1 (.int .i64 (atV fz tz n d))
      go_wp2
      have v0 := x2.cell 0
      have v1 := x2.cell 1
      refine bodyPost_ret (v := srC ⟨atV fx tx n d, atV fz tz n d, 0⟩) ?_ rfl ⟨by rw [HE.out], Below.set2 hBC (by omega)⟩
      simp [results, Tryz.results36, go_sem, srC] at v0 v1 ⊢
      simp [v0, v1]
end Go.Proofs.YtfbnpfhnffahdaaGreatDoor

namespace Go.Proofs.YtfbnpfhnffahdaaGreatDoor
open Go.RowKit

/-- Whether a place is at most so far from a face. -/
def nearB (f : Fc) (x z most : Int) : Bool :=
  if (f.tx - f.fx) * (x - f.fx) + (f.tz - f.fz) * (z - f.fz) ≤ 0 then decide ((x - f.fx) * (x - f.fx) + (z - f.fz) * (z - f.fz) ≤ most * most)
  else if (f.tx - f.fx) * (f.tx - f.fx) + (f.tz - f.fz) * (f.tz - f.fz) ≤ (f.tx - f.fx) * (x - f.fx) + (f.tz - f.fz) * (z - f.fz) then decide ((x - f.tx) * (x - f.tx) + (z - f.tz) * (z - f.tz) ≤ most * most)
  else decide (((f.tx - f.fx) * (z - f.fz) - (f.tz - f.fz) * (x - f.fx)) * ((f.tx - f.fx) * (z - f.fz) - (f.tz - f.fz) * (x - f.fx)) ≤ most * most * ((f.tx - f.fx) * (f.tx - f.fx) + (f.tz - f.fz) * (f.tz - f.fz)))

theorem max_sq (n : Int) : max n (-n) * max n (-n) = n * n := by
  rcases Int.le_total n (-n) with h | h
  · rw [Int.max_eq_right h, Int.neg_mul_neg]
  · rw [Int.max_eq_left h]
theorem sq_nn (a : Int) : 0 ≤ a * a := by
  rcases Int.le_total 0 a with h | h
  · exact Int.mul_nonneg h h
  · have := Int.mul_nonneg (a := -a) (b := -a) (by omega) (by omega)
    rwa [Int.neg_mul_neg] at this

set_option maxRecDepth 100000 in
set_option maxHeartbeats 1000000 in
theorem near_any (nm : ByteArray) (f : Fc) (x z most : Int) (hfx : -20000 ≤ f.fx ∧ f.fx ≤ 20000) (htx : -20000 ≤ f.tx ∧ f.tx ≤ 20000) (hfz : 0 ≤ f.fz ∧ f.fz ≤ 20000) (htz : 0 ≤ f.tz ∧ f.tz ≤ 20000)
    (hx : -100000 ≤ x ∧ x ≤ 100000) (hz' : -100000 ≤ z ∧ z ≤ 100000) (hm : 0 ≤ most ∧ most ≤ 20000) (w : World) :
    Calls Tryz.prog 80 #[.agg (fcC nm f), .agg #[.int .i64 x, .int .i64 z], .int .i64 most] w fun e w' => e = .returned (.bool (nearB f x z most)) ∧ Below w.heap.size w w' := by
  obtain ⟨fx, fz, tx, tz⟩ := f
  unfold fcC
  dsimp only at *
  have b0 := (Blk.new w 57 #[.string nm, .int .i64 fx, .int .i64 fz, .int .i64 tx, .int .i64 tz]).alloc (.cells #[.int .i64 x, .int .i64 z] 55 (0, 0))
  have y0 := Blk.new' (w.alloc (.cells #[.string nm, .int .i64 fx, .int .i64 fz, .int .i64 tx, .int .i64 tz] 57)) 55 #[.int .i64 x, .int .i64 z] (g := w.heap.size + 1) (by simp)
  have hB0 : Below w.heap.size w ((w.alloc (.cells #[.string nm, .int .i64 fx, .int .i64 fz, .int .i64 tx, .int .i64 tz] 57)).alloc (.cells #[.int .i64 x, .int .i64 z] 55)) := ((Below.refl _ _).alloc (Nat.le_refl _) _).alloc (by simp) _
  have hsz : ((w.alloc (.cells #[.string nm, .int .i64 fx, .int .i64 fz, .int .i64 tx, .int .i64 tz] 57)).alloc (.cells #[.int .i64 x, .int .i64 z] 55)).heap.size = w.heap.size + 2 := by simp
  go_enter Tryz.func80, Tryz.ntmps80
  go_upto_region 1 with fail
  generalize (w.alloc (.cells #[.string nm, .int .i64 fx, .int .i64 fz, .int .i64 tx, .int .i64 tz] 57)).alloc (.cells #[.int .i64 x, .int .i64 z] 55) = wA at *
  go_cut [7, 8] (fun s7 s8 wx => ∃ r o : Nat, s7 = .pointer (some ⟨r, 0, none⟩) ∧ s8 = .pointer (some ⟨o, 0, none⟩) ∧ Blk wx r 167 (spC (tx - fx) (tz - fz)) ∧ Blk wx o 167 (spC (x - fx) (z - fz)) ∧ Below wA.heap.size wA wx)
  case first =>
    obtain ⟨v0, v1, v2, v3, v4⟩ : wA.cell? ⟨w.heap.size, 0, none⟩ = some (.string nm) ∧ wA.cell? ⟨w.heap.size, 1, none⟩ = some (.int .i64 fx) ∧ wA.cell? ⟨w.heap.size, 2, none⟩ = some (.int .i64 fz) ∧ wA.cell? ⟨w.heap.size, 3, none⟩ = some (.int .i64 tx) ∧ wA.cell? ⟨w.heap.size, 4, none⟩ = some (.int .i64 tz) := ⟨b0.cell 0, b0.cell 1, b0.cell 2, b0.cell 3, b0.cell 4⟩
    have u0 : wA.cell? ⟨w.heap.size + 1, 0, none⟩ = some (.int .i64 x) := y0.cell 0
    have u1 : wA.cell? ⟨w.heap.size + 1, 1, none⟩ = some (.int .i64 z) := y0.cell 1
    have lb := b0.lt
    have ly := y0.lt
    clear b0 y0 hsz hB0
    refine wp_region_w (Gr _) (by kernel_rfl) (Below.refl _ _).drew ?_
    refine wpW_det (t' := ?ct0R1) 0 (by rfl) (by kernel_rfl) (NQ_free _) (by kernel_rfl) ?cw0R1 ?ch0R1 ?ca0R1 (Eq.refl _) ?cH0R1
    case cw0R1 => (go_simp; done)
    case ch0R1 =>
      intro ds w' hS K hK
      have hc := (bcell hS).1
      have hf := (bcell hS).2
      have hz := hS.size
      try simp at hz
      go_simp
      try go_bits
      first
        | exact hK _ hS (Gr.refl _)
        | (go_at_call 107; refine (from_any _ _ _ _ (by omega) (by omega) (by omega) (by omega) _).mono ?_; rintro e w1 ⟨rfl, hB1⟩; obtain ⟨hc1, hf1⟩ := bcell hB1; have hz1 := hB1.size; (try simp at hz1); exact hK _ (Below.trans hS (Below.mono hB1 (by first | exact Nat.le_refl _ | (simp; done) | (simp; omega) | omega))) hB1)
        | exact hK _ (by repeat (first | (with_reducible exact Below.refl _ _) | (with_reducible assumption) | ((with_reducible refine Below.setCell ?_ ?_ _); rotate_left; · (first | exact Nat.le_refl _ | (simp; done) | (simp; omega) | omega)) | ((with_reducible refine Below.alloc ?_ ?_ _); rotate_left; · (first | exact Nat.le_refl _ | (simp; done) | (simp; omega) | omega)) | (with_reducible apply Below.drew) | (with_reducible apply below_drewN') | (refine Below.trans ?_ (Below.mono (by assumption) (by first | exact Nat.le_refl _ | (simp; done) | (simp; omega) | omega))) | exact Below.refl _ _ | assumption)) (by repeat (first | (with_reducible exact Below.refl _ _) | (with_reducible assumption) | ((with_reducible refine Below.setCell ?_ ?_ _); rotate_left; · (first | exact Nat.le_refl _ | (simp; done) | (simp; omega) | omega)) | ((with_reducible refine Below.alloc ?_ ?_ _); rotate_left; · (first | exact Nat.le_refl _ | (simp; done) | (simp; omega) | omega)) | (with_reducible apply Below.drew) | (with_reducible apply below_drewN') | (refine Below.trans ?_ (Below.mono (by assumption) (by first | exact Nat.le_refl _ | (simp; done) | (simp; omega) | omega))) | exact Below.refl _ _ | assumption))
    case ca0R1 => (first | (simp [Act.put]; done) | (simp [Act.put, *]; done))
    try dsimp only
    refine wpW_det (t' := ?ct1R1) 1 (by rfl) (by kernel_rfl) (NQ_free _) (by kernel_rfl) ?cw1R1 ?ch1R1 ?ca1R1 (Eq.refl _) ?cH1R1
    case cw1R1 => (go_simp; done)
    case ch1R1 =>
      intro ds w' hS K hK
      have hc := (bcell hS).1
      have hf := (bcell hS).2
      have hz := hS.size
      try simp at hz
      go_simp
      try go_bits
      first
        | exact hK _ hS (Gr.refl _)
        | (go_at_call 107; refine (from_any _ _ _ _ (by omega) (by omega) (by omega) (by omega) _).mono ?_; rintro e w1 ⟨rfl, hB1⟩; obtain ⟨hc1, hf1⟩ := bcell hB1; have hz1 := hB1.size; (try simp at hz1); exact hK _ (Below.trans hS (Below.mono hB1 (by first | exact Nat.le_refl _ | (simp; done) | (simp; omega) | omega))) hB1)
        | exact hK _ (by repeat (first | (with_reducible exact Below.refl _ _) | (with_reducible assumption) | ((with_reducible refine Below.setCell ?_ ?_ _); rotate_left; · (first | exact Nat.le_refl _ | (simp; done) | (simp; omega) | omega)) | ((with_reducible refine Below.alloc ?_ ?_ _); rotate_left; · (first | exact Nat.le_refl _ | (simp; done) | (simp; omega) | omega)) | (with_reducible apply Below.drew) | (with_reducible apply below_drewN') | (refine Below.trans ?_ (Below.mono (by assumption) (by first | exact Nat.le_refl _ | (simp; done) | (simp; omega) | omega))) | exact Below.refl _ _ | assumption)) (by repeat (first | (with_reducible exact Below.refl _ _) | (with_reducible assumption) | ((with_reducible refine Below.setCell ?_ ?_ _); rotate_left; · (first | exact Nat.le_refl _ | (simp; done) | (simp; omega) | omega)) | ((with_reducible refine Below.alloc ?_ ?_ _); rotate_left; · (first | exact Nat.le_refl _ | (simp; done) | (simp; omega) | omega)) | (with_reducible apply Below.drew) | (with_reducible apply below_drewN') | (refine Below.trans ?_ (Below.mono (by assumption) (by first | exact Nat.le_refl _ | (simp; done) | (simp; omega) | omega))) | exact Below.refl _ _ | assumption))
    case ca1R1 => (first | (simp [Act.put]; done) | (simp [Act.put, *]; done))
    try dsimp only
    refine wpW_det (t' := ?ct2R1) 2 (by rfl) (by kernel_rfl) (NQ_free _) (by kernel_rfl) ?cw2R1 ?ch2R1 ?ca2R1 (Eq.refl _) ?cH2R1
    case cw2R1 => (go_simp; done)
    case ch2R1 =>
      intro ds w' hS K hK
      have hc := (bcell hS).1
      have hf := (bcell hS).2
      have hz := hS.size
      try simp at hz
      go_simp
      try go_bits
      first
        | exact hK _ hS (Gr.refl _)
        | (go_at_call 107; refine (from_any _ _ _ _ (by omega) (by omega) (by omega) (by omega) _).mono ?_; rintro e w1 ⟨rfl, hB1⟩; obtain ⟨hc1, hf1⟩ := bcell hB1; have hz1 := hB1.size; (try simp at hz1); exact hK _ (Below.trans hS (Below.mono hB1 (by first | exact Nat.le_refl _ | (simp; done) | (simp; omega) | omega))) hB1)
        | exact hK _ (by repeat (first | (with_reducible exact Below.refl _ _) | (with_reducible assumption) | ((with_reducible refine Below.setCell ?_ ?_ _); rotate_left; · (first | exact Nat.le_refl _ | (simp; done) | (simp; omega) | omega)) | ((with_reducible refine Below.alloc ?_ ?_ _); rotate_left; · (first | exact Nat.le_refl _ | (simp; done) | (simp; omega) | omega)) | (with_reducible apply Below.drew) | (with_reducible apply below_drewN') | (refine Below.trans ?_ (Below.mono (by assumption) (by first | exact Nat.le_refl _ | (simp; done) | (simp; omega) | omega))) | exact Below.refl _ _ | assumption)) (by repeat (first | (with_reducible exact Below.refl _ _) | (with_reducible assumption) | ((with_reducible refine Below.setCell ?_ ?_ _); rotate_left; · (first | exact Nat.le_refl _ | (simp; done) | (simp; omega) | omega)) | ((with_reducible refine Below.alloc ?_ ?_ _); rotate_left; · (first | exact Nat.le_refl _ | (simp; done) | (simp; omega) | omega)) | (with_reducible apply Below.drew) | (with_reducible apply below_drewN') | (refine Below.trans ?_ (Below.mono (by assumption) (by first | exact Nat.le_refl _ | (simp; done) | (simp; omega) | omega))) | exact Below.refl _ _ | assumption))
    case ca2R1 => (first | (simp [Act.put]; done) | (simp [Act.put, *]; done))
    try dsimp only
    refine wpW_det (t' := ?ct3R1) 3 (by rfl) (by kernel_rfl) (NQ_free _) (by kernel_rfl) ?cw3R1 ?ch3R1 ?ca3R1 (Eq.refl _) ?cH3R1
    case cw3R1 => (go_simp; done)
    case ch3R1 =>
      intro ds w' hS K hK
      have hc := (bcell hS).1
      have hf := (bcell hS).2
      have hz := hS.size
      try simp at hz
      go_simp
      try go_bits
      first
        | exact hK _ hS (Gr.refl _)
        | (go_at_call 107; refine (from_any _ _ _ _ (by omega) (by omega) (by omega) (by omega) _).mono ?_; rintro e w1 ⟨rfl, hB1⟩; obtain ⟨hc1, hf1⟩ := bcell hB1; have hz1 := hB1.size; (try simp at hz1); exact hK _ (Below.trans hS (Below.mono hB1 (by first | exact Nat.le_refl _ | (simp; done) | (simp; omega) | omega))) hB1)
        | exact hK _ (by repeat (first | (with_reducible exact Below.refl _ _) | (with_reducible assumption) | ((with_reducible refine Below.setCell ?_ ?_ _); rotate_left; · (first | exact Nat.le_refl _ | (simp; done) | (simp; omega) | omega)) | ((with_reducible refine Below.alloc ?_ ?_ _); rotate_left; · (first | exact Nat.le_refl _ | (simp; done) | (simp; omega) | omega)) | (with_reducible apply Below.drew) | (with_reducible apply below_drewN') | (refine Below.trans ?_ (Below.mono (by assumption) (by first | exact Nat.le_refl _ | (simp; done) | (simp; omega) | omega))) | exact Below.refl _ _ | assumption)) (by repeat (first | (with_reducible exact Below.refl _ _) | (with_reducible assumption) | ((with_reducible refine Below.setCell ?_ ?_ _); rotate_left; · (first | exact Nat.le_refl _ | (simp; done) | (simp; omega) | omega)) | ((with_reducible refine Below.alloc ?_ ?_ _); rotate_left; · (first | exact Nat.le_refl _ | (simp; done) | (simp; omega) | omega)) | (with_reducible apply Below.drew) | (with_reducible apply below_drewN') | (refine Below.trans ?_ (Below.mono (by assumption) (by first | exact Nat.le_refl _ | (simp; done) | (simp; omega) | omega))) | exact Below.refl _ _ | assumption))
    case ca3R1 => (first | (simp [Act.put]; done) | (simp [Act.put, *]; done))
    try dsimp only
    refine wpW_det (t' := ?ct4R1) 4 (by rfl) (by kernel_rfl) (NQ_free _) (by kernel_rfl) ?cw4R1 ?ch4R1 ?ca4R1 (Eq.refl _) ?cH4R1
    case cw4R1 => (go_simp; done)
    case ch4R1 =>
      intro ds w' hS K hK
      have hc := (bcell hS).1
      have hf := (bcell hS).2
      have hz := hS.size
      try simp at hz
      go_simp
      try go_bits
      first
        | exact hK _ hS (Gr.refl _)
        | (go_at_call 107; refine (from_any _ _ _ _ (by omega) (by omega) (by omega) (by omega) _).mono ?_; rintro e w1 ⟨rfl, hB1⟩; obtain ⟨hc1, hf1⟩ := bcell hB1; have hz1 := hB1.size; (try simp at hz1); exact hK _ (Below.trans hS (Below.mono hB1 (by first | exact Nat.le_refl _ | (simp; done) | (simp; omega) | omega))) hB1)
        | exact hK _ (by repeat (first | (with_reducible exact Below.refl _ _) | (with_reducible assumption) | ((with_reducible refine Below.setCell ?_ ?_ _); rotate_left; · (first | exact Nat.le_refl _ | (simp; done) | (simp; omega) | omega)) | ((with_reducible refine Below.alloc ?_ ?_ _); rotate_left; · (first | exact Nat.le_refl _ | (simp; done) | (simp; omega) | omega)) | (with_reducible apply Below.drew) | (with_reducible apply below_drewN') | (refine Below.trans ?_ (Below.mono (by assumption) (by first | exact Nat.le_refl _ | (simp; done) | (simp; omega) | omega))) | exact Below.refl _ _ | assumption)) (by repeat (first | (with_reducible exact Below.refl _ _) | (with_reducible assumption) | ((with_reducible refine Below.setCell ?_ ?_ _); rotate_left; · (first | exact Nat.le_refl _ | (simp; done) | (simp; omega) | omega)) | ((with_reducible refine Below.alloc ?_ ?_ _); rotate_left; · (first | exact Nat.le_refl _ | (simp; done) | (simp; omega) | omega)) | (with_reducible apply Below.drew) | (with_reducible apply below_drewN') | (refine Below.trans ?_ (Below.mono (by assumption) (by first | exact Nat.le_refl _ | (simp; done) | (simp; omega) | omega))) | exact Below.refl _ _ | assumption))
    case ca4R1 => (first | (simp [Act.put]; done) | (simp [Act.put, *]; done))
    try dsimp only
    refine wpW_det (t' := ?ct5R1) 5 (by rfl) (by kernel_rfl) (NQ_free _) (by kernel_rfl) ?cw5R1 ?ch5R1 ?ca5R1 (Eq.refl _) ?cH5R1
    case cw5R1 => (go_simp; done)
    case ch5R1 =>
      intro ds w' hS K hK
      have hc := (bcell hS).1
      have hf := (bcell hS).2
      have hz := hS.size
      try simp at hz
      go_simp
      try go_bits
      first
        | exact hK _ hS (Gr.refl _)
        | (go_at_call 107; refine (from_any _ _ _ _ (by omega) (by omega) (by omega) (by omega) _).mono ?_; rintro e w1 ⟨rfl, hB1⟩; obtain ⟨hc1, hf1⟩ := bcell hB1; have hz1 := hB1.size; (try simp at hz1); exact hK _ (Below.trans hS (Below.mono hB1 (by first | exact Nat.le_refl _ | (simp; done) | (simp; omega) | omega))) hB1)
        | exact hK _ (by repeat (first | (with_reducible exact Below.refl _ _) | (with_reducible assumption) | ((with_reducible refine Below.setCell ?_ ?_ _); rotate_left; · (first | exact Nat.le_refl _ | (simp; done) | (simp; omega) | omega)) | ((with_reducible refine Below.alloc ?_ ?_ _); rotate_left; · (first | exact Nat.le_refl _ | (simp; done) | (simp; omega) | omega)) | (with_reducible apply Below.drew) | (with_reducible apply below_drewN') | (refine Below.trans ?_ (Below.mono (by assumption) (by first | exact Nat.le_refl _ | (simp; done) | (simp; omega) | omega))) | exact Below.refl _ _ | assumption)) (by repeat (first | (with_reducible exact Below.refl _ _) | (with_reducible assumption) | ((with_reducible refine Below.setCell ?_ ?_ _); rotate_left; · (first | exact Nat.le_refl _ | (simp; done) | (simp; omega) | omega)) | ((with_reducible refine Below.alloc ?_ ?_ _); rotate_left; · (first | exact Nat.le_refl _ | (simp; done) | (simp; omega) | omega)) | (with_reducible apply Below.drew) | (with_reducible apply below_drewN') | (refine Below.trans ?_ (Below.mono (by assumption) (by first | exact Nat.le_refl _ | (simp; done) | (simp; omega) | omega))) | exact Below.refl _ _ | assumption))
    case ca5R1 => (first | (simp [Act.put]; done) | (simp [Act.put, *]; done))
    try dsimp only
    refine wpW_det (t' := ?ct6R1) 6 (by rfl) (by kernel_rfl) (NQ_free _) (by kernel_rfl) ?cw6R1 ?ch6R1 ?ca6R1 (Eq.refl _) ?cH6R1
    case cw6R1 => (go_simp; done)
    case ch6R1 =>
      intro ds w' hS K hK
      have hc := (bcell hS).1
      have hf := (bcell hS).2
      have hz := hS.size
      try simp at hz
      go_simp
      try go_bits
      first
        | exact hK _ hS (Gr.refl _)
        | (go_at_call 107; refine (from_any _ _ _ _ (by omega) (by omega) (by omega) (by omega) _).mono ?_; rintro e w1 ⟨rfl, hB1⟩; obtain ⟨hc1, hf1⟩ := bcell hB1; have hz1 := hB1.size; (try simp at hz1); exact hK _ (Below.trans hS (Below.mono hB1 (by first | exact Nat.le_refl _ | (simp; done) | (simp; omega) | omega))) hB1)
        | exact hK _ (by repeat (first | (with_reducible exact Below.refl _ _) | (with_reducible assumption) | ((with_reducible refine Below.setCell ?_ ?_ _); rotate_left; · (first | exact Nat.le_refl _ | (simp; done) | (simp; omega) | omega)) | ((with_reducible refine Below.alloc ?_ ?_ _); rotate_left; · (first | exact Nat.le_refl _ | (simp; done) | (simp; omega) | omega)) | (with_reducible apply Below.drew) | (with_reducible apply below_drewN') | (refine Below.trans ?_ (Below.mono (by assumption) (by first | exact Nat.le_refl _ | (simp; done) | (simp; omega) | omega))) | exact Below.refl _ _ | assumption)) (by repeat (first | (with_reducible exact Below.refl _ _) | (with_reducible assumption) | ((with_reducible refine Below.setCell ?_ ?_ _); rotate_left; · (first | exact Nat.le_refl _ | (simp; done) | (simp; omega) | omega)) | ((with_reducible refine Below.alloc ?_ ?_ _); rotate_left; · (first | exact Nat.le_refl _ | (simp; done) | (simp; omega) | omega)) | (with_reducible apply Below.drew) | (with_reducible apply below_drewN') | (refine Below.trans ?_ (Below.mono (by assumption) (by first | exact Nat.le_refl _ | (simp; done) | (simp; omega) | omega))) | exact Below.refl _ _ | assumption))
    case ca6R1 => (first | (simp [Act.put]; done) | (simp [Act.put, *]; done))
    try dsimp only
    refine wpW_det (t' := ?ct7R1) 7 (by rfl) (by kernel_rfl) (NQ_free _) (by kernel_rfl) ?cw7R1 ?ch7R1 ?ca7R1 (Eq.refl _) ?cH7R1
    case cw7R1 => (go_simp; done)
    case ch7R1 =>
      intro ds w' hS K hK
      have hc := (bcell hS).1
      have hf := (bcell hS).2
      have hz := hS.size
      try simp at hz
      go_simp
      try go_bits
      first
        | exact hK _ hS (Gr.refl _)
        | (go_at_call 107; refine (from_any _ _ _ _ (by omega) (by omega) (by omega) (by omega) _).mono ?_; rintro e w1 ⟨rfl, hB1⟩; obtain ⟨hc1, hf1⟩ := bcell hB1; have hz1 := hB1.size; (try simp at hz1); exact hK _ (Below.trans hS (Below.mono hB1 (by first | exact Nat.le_refl _ | (simp; done) | (simp; omega) | omega))) hB1)
        | exact hK _ (by repeat (first | (with_reducible exact Below.refl _ _) | (with_reducible assumption) | ((with_reducible refine Below.setCell ?_ ?_ _); rotate_left; · (first | exact Nat.le_refl _ | (simp; done) | (simp; omega) | omega)) | ((with_reducible refine Below.alloc ?_ ?_ _); rotate_left; · (first | exact Nat.le_refl _ | (simp; done) | (simp; omega) | omega)) | (with_reducible apply Below.drew) | (with_reducible apply below_drewN') | (refine Below.trans ?_ (Below.mono (by assumption) (by first | exact Nat.le_refl _ | (simp; done) | (simp; omega) | omega))) | exact Below.refl _ _ | assumption)) (by repeat (first | (with_reducible exact Below.refl _ _) | (with_reducible assumption) | ((with_reducible refine Below.setCell ?_ ?_ _); rotate_left; · (first | exact Nat.le_refl _ | (simp; done) | (simp; omega) | omega)) | ((with_reducible refine Below.alloc ?_ ?_ _); rotate_left; · (first | exact Nat.le_refl _ | (simp; done) | (simp; omega) | omega)) | (with_reducible apply Below.drew) | (with_reducible apply below_drewN') | (refine Below.trans ?_ (Below.mono (by assumption) (by first | exact Nat.le_refl _ | (simp; done) | (simp; omega) | omega))) | exact Below.refl _ _ | assumption))
    case ca7R1 => (first | (simp [Act.put]; done) | (simp [Act.put, *]; done))
    try dsimp only
    refine wpW_det (t' := ?ct8R1) 8 (by rfl) (by kernel_rfl) (NQ_free _) (by kernel_rfl) ?cw8R1 ?ch8R1 ?ca8R1 (Eq.refl _) ?cH8R1
    case cw8R1 => (go_simp; done)
    case ch8R1 =>
      intro ds w' hS K hK
      have hc := (bcell hS).1
      have hf := (bcell hS).2
      have hz := hS.size
      try simp at hz
      go_simp
      try go_bits
      first
        | exact hK _ hS (Gr.refl _)
        | (go_at_call 107; refine (from_any _ _ _ _ (by omega) (by omega) (by omega) (by omega) _).mono ?_; rintro e w1 ⟨rfl, hB1⟩; obtain ⟨hc1, hf1⟩ := bcell hB1; have hz1 := hB1.size; (try simp at hz1); exact hK _ (Below.trans hS (Below.mono hB1 (by first | exact Nat.le_refl _ | (simp; done) | (simp; omega) | omega))) hB1)
        | exact hK _ (by repeat (first | (with_reducible exact Below.refl _ _) | (with_reducible assumption) | ((with_reducible refine Below.setCell ?_ ?_ _); rotate_left; · (first | exact Nat.le_refl _ | (simp; done) | (simp; omega) | omega)) | ((with_reducible refine Below.alloc ?_ ?_ _); rotate_left; · (first | exact Nat.le_refl _ | (simp; done) | (simp; omega) | omega)) | (with_reducible apply Below.drew) | (with_reducible apply below_drewN') | (refine Below.trans ?_ (Below.mono (by assumption) (by first | exact Nat.le_refl _ | (simp; done) | (simp; omega) | omega))) | exact Below.refl _ _ | assumption)) (by repeat (first | (with_reducible exact Below.refl _ _) | (with_reducible assumption) | ((with_reducible refine Below.setCell ?_ ?_ _); rotate_left; · (first | exact Nat.le_refl _ | (simp; done) | (simp; omega) | omega)) | ((with_reducible refine Below.alloc ?_ ?_ _); rotate_left; · (first | exact Nat.le_refl _ | (simp; done) | (simp; omega) | omega)) | (with_reducible apply Below.drew) | (with_reducible apply below_drewN') | (refine Below.trans ?_ (Below.mono (by assumption) (by first | exact Nat.le_refl _ | (simp; done) | (simp; omega) | omega))) | exact Below.refl _ _ | assumption))
    case ca8R1 => (first | (simp [Act.put]; done) | (simp [Act.put, *]; done))
    try dsimp only
    refine wpW_branch [9, 10] (by kernel_rfl) (by simp) ?_
    intro w1 hg1 hS1
    have hc1 := (bcell hg1).1
    have hf1 := (bcell hg1).2
    have hz1 := hg1.size
    try simp at hz1
    refine each_cons ?_ (each_cons ?_ (each_nil))
    · refine wpOp_go (by rfl) (Eq.refl _) (by go_simp; done) ?_
      intro K hK
      go_simp
      try simp only [Act.put]
      refine hK _ _ (by repeat (first | (with_reducible exact Below.refl _ _) | (with_reducible assumption) | ((with_reducible refine Below.setCell ?_ ?_ _); rotate_left; · (first | exact Nat.le_refl _ | (simp; done) | (simp; omega) | omega)) | ((with_reducible refine Below.alloc ?_ ?_ _); rotate_left; · (first | exact Nat.le_refl _ | (simp; done) | (simp; omega) | omega)) | (with_reducible apply Below.drew) | (with_reducible apply below_drewN') | (refine Below.trans ?_ (Below.mono (by assumption) (by first | exact Nat.le_refl _ | (simp; done) | (simp; omega) | omega))) | exact Below.refl _ _ | assumption)) ?_
      clear hK K
      refine wpW_branch [10] (by kernel_rfl) (by simp) ?_
      intro w2 hg2 hS2
      have hc2 := (bcell hg2).1
      have hf2 := (bcell hg2).2
      have hz2 := hg2.size
      try simp at hz2
      have hl1_2 : w1.heap.size ≤ w2.heap.size := by omega
      try have hm1_2 : w1.heap.size < w2.heap.size := by omega
      refine each_cons ?_ (each_nil)
      · refine wpOp_go (by rfl) (Eq.refl _) (by go_simp; done) ?_
        intro K hK
        go_simp
        try simp only [Act.put]
        refine hK _ _ (by repeat (first | (with_reducible exact Below.refl _ _) | (with_reducible assumption) | ((with_reducible refine Below.setCell ?_ ?_ _); rotate_left; · (first | exact Nat.le_refl _ | (simp; done) | (simp; omega) | omega)) | ((with_reducible refine Below.alloc ?_ ?_ _); rotate_left; · (first | exact Nat.le_refl _ | (simp; done) | (simp; omega) | omega)) | (with_reducible apply Below.drew) | (with_reducible apply below_drewN') | (refine Below.trans ?_ (Below.mono (by assumption) (by first | exact Nat.le_refl _ | (simp; done) | (simp; omega) | omega))) | exact Below.refl _ _ | assumption)) ?_
        clear hK K
        refine wpW_branch [11] (by kernel_rfl) (by simp) ?_
        intro w3 hg3 hS3
        have hc3 := (bcell hg3).1
        have hf3 := (bcell hg3).2
        have hz3 := hg3.size
        try simp at hz3
        have hl1_3 : w1.heap.size ≤ w3.heap.size := by omega
        try have hm1_3 : w1.heap.size < w3.heap.size := by omega
        have hl2_3 : w2.heap.size ≤ w3.heap.size := by omega
        try have hm2_3 : w2.heap.size < w3.heap.size := by omega
        refine each_cons ?_ (each_nil)
        · refine wpOp_go (by rfl) (Eq.refl _) (by go_simp; done) ?_
          intro K hK
          go_simp
          try simp only [Act.put]
          refine hK _ _ (by repeat (first | (with_reducible exact Below.refl _ _) | (with_reducible assumption) | ((with_reducible refine Below.setCell ?_ ?_ _); rotate_left; · (first | exact Nat.le_refl _ | (simp; done) | (simp; omega) | omega)) | ((with_reducible refine Below.alloc ?_ ?_ _); rotate_left; · (first | exact Nat.le_refl _ | (simp; done) | (simp; omega) | omega)) | (with_reducible apply Below.drew) | (with_reducible apply below_drewN') | (refine Below.trans ?_ (Below.mono (by assumption) (by first | exact Nat.le_refl _ | (simp; done) | (simp; omega) | omega))) | exact Below.refl _ _ | assumption)) ?_
          clear hK K
          refine wpW_branch [12] (by kernel_rfl) (by simp) ?_
          intro w4 hg4 hS4
          have hc4 := (bcell hg4).1
          have hf4 := (bcell hg4).2
          have hz4 := hg4.size
          try simp at hz4
          have hl1_4 : w1.heap.size ≤ w4.heap.size := by omega
          try have hm1_4 : w1.heap.size < w4.heap.size := by omega
          have hl2_4 : w2.heap.size ≤ w4.heap.size := by omega
          try have hm2_4 : w2.heap.size < w4.heap.size := by omega
          have hl3_4 : w3.heap.size ≤ w4.heap.size := by omega
          try have hm3_4 : w3.heap.size < w4.heap.size := by omega
          refine each_cons ?_ (each_nil)
          · refine wpOp_go (by rfl) (Eq.refl _) (by go_simp; done) ?_
            intro K hK
            go_simp
            try simp only [Act.put]
            refine hK _ _ (by repeat (first | (with_reducible exact Below.refl _ _) | (with_reducible assumption) | ((with_reducible refine Below.setCell ?_ ?_ _); rotate_left; · (first | exact Nat.le_refl _ | (simp; done) | (simp; omega) | omega)) | ((with_reducible refine Below.alloc ?_ ?_ _); rotate_left; · (first | exact Nat.le_refl _ | (simp; done) | (simp; omega) | omega)) | (with_reducible apply Below.drew) | (with_reducible apply below_drewN') | (refine Below.trans ?_ (Below.mono (by assumption) (by first | exact Nat.le_refl _ | (simp; done) | (simp; omega) | omega))) | exact Below.refl _ _ | assumption)) ?_
            clear hK K
            refine wpW_end (by kernel_rfl) ?_
            intro w5 hg5 hS5
            have hc5 := (bcell hg5).1
            have hf5 := (bcell hg5).2
            have hz5 := hg5.size
            try simp at hz5
            have hl1_5 : w1.heap.size ≤ w5.heap.size := by omega
            try have hm1_5 : w1.heap.size < w5.heap.size := by omega
            have hl2_5 : w2.heap.size ≤ w5.heap.size := by omega
            try have hm2_5 : w2.heap.size < w5.heap.size := by omega
            have hl3_5 : w3.heap.size ≤ w5.heap.size := by omega
            try have hm3_5 : w3.heap.size < w5.heap.size := by omega
            have hl4_5 : w4.heap.size ≤ w5.heap.size := by omega
            try have hm4_5 : w4.heap.size < w5.heap.size := by omega
            unfold NQ
            dsimp only
            go_wp2_with fail
            go_meet
            first
              | (obtain ⟨g1, g2, g3, g4, g5⟩ := two_new hS1 hg2 hg3; obtain ⟨g6, g7⟩ := two_set g1 g2 g3 hg4 hg5; exact ⟨_, _, rfl, rfl, g6, g7, hS5⟩)
              | (obtain ⟨g1, g2, g3, g4, g5⟩ := two_new hS1 hg2 hg3; obtain ⟨g6, g7⟩ := two_set g2 g1 (Ne.symm g3) hg4 hg5; exact ⟨_, _, rfl, rfl, g6, g7, hS5⟩)
    · refine wpOp_go (by rfl) (Eq.refl _) (by go_simp; done) ?_
      intro K hK
      go_simp
      try simp only [Act.put]
      refine hK _ _ (by repeat (first | (with_reducible exact Below.refl _ _) | (with_reducible assumption) | ((with_reducible refine Below.setCell ?_ ?_ _); rotate_left; · (first | exact Nat.le_refl _ | (simp; done) | (simp; omega) | omega)) | ((with_reducible refine Below.alloc ?_ ?_ _); rotate_left; · (first | exact Nat.le_refl _ | (simp; done) | (simp; omega) | omega)) | (with_reducible apply Below.drew) | (with_reducible apply below_drewN') | (refine Below.trans ?_ (Below.mono (by assumption) (by first | exact Nat.le_refl _ | (simp; done) | (simp; omega) | omega))) | exact Below.refl _ _ | assumption)) ?_
      clear hK K
      refine wpW_branch [9] (by kernel_rfl) (by simp) ?_
      intro w2 hg2 hS2
      have hc2 := (bcell hg2).1
      have hf2 := (bcell hg2).2
      have hz2 := hg2.size
      try simp at hz2
      have hl1_2 : w1.heap.size ≤ w2.heap.size := by omega
      try have hm1_2 : w1.heap.size < w2.heap.size := by omega
      refine each_cons ?_ (each_nil)
      · refine wpOp_go (by rfl) (Eq.refl _) (by go_simp; done) ?_
        intro K hK
        go_simp
        try simp only [Act.put]
        refine hK _ _ (by repeat (first | (with_reducible exact Below.refl _ _) | (with_reducible assumption) | ((with_reducible refine Below.setCell ?_ ?_ _); rotate_left; · (first | exact Nat.le_refl _ | (simp; done) | (simp; omega) | omega)) | ((with_reducible refine Below.alloc ?_ ?_ _); rotate_left; · (first | exact Nat.le_refl _ | (simp; done) | (simp; omega) | omega)) | (with_reducible apply Below.drew) | (with_reducible apply below_drewN') | (refine Below.trans ?_ (Below.mono (by assumption) (by first | exact Nat.le_refl _ | (simp; done) | (simp; omega) | omega))) | exact Below.refl _ _ | assumption)) ?_
        clear hK K
        refine wpW_branch [11] (by kernel_rfl) (by simp) ?_
        intro w3 hg3 hS3
        have hc3 := (bcell hg3).1
        have hf3 := (bcell hg3).2
        have hz3 := hg3.size
        try simp at hz3
        have hl1_3 : w1.heap.size ≤ w3.heap.size := by omega
        try have hm1_3 : w1.heap.size < w3.heap.size := by omega
        have hl2_3 : w2.heap.size ≤ w3.heap.size := by omega
        try have hm2_3 : w2.heap.size < w3.heap.size := by omega
        refine each_cons ?_ (each_nil)
        · refine wpOp_go (by rfl) (Eq.refl _) (by go_simp; done) ?_
          intro K hK
          go_simp
          try simp only [Act.put]
          refine hK _ _ (by repeat (first | (with_reducible exact Below.refl _ _) | (with_reducible assumption) | ((with_reducible refine Below.setCell ?_ ?_ _); rotate_left; · (first | exact Nat.le_refl _ | (simp; done) | (simp; omega) | omega)) | ((with_reducible refine Below.alloc ?_ ?_ _); rotate_left; · (first | exact Nat.le_refl _ | (simp; done) | (simp; omega) | omega)) | (with_reducible apply Below.drew) | (with_reducible apply below_drewN') | (refine Below.trans ?_ (Below.mono (by assumption) (by first | exact Nat.le_refl _ | (simp; done) | (simp; omega) | omega))) | exact Below.refl _ _ | assumption)) ?_
          clear hK K
          refine wpW_branch [12] (by kernel_rfl) (by simp) ?_
          intro w4 hg4 hS4
          have hc4 := (bcell hg4).1
          have hf4 := (bcell hg4).2
          have hz4 := hg4.size
          try simp at hz4
          have hl1_4 : w1.heap.size ≤ w4.heap.size := by omega
          try have hm1_4 : w1.heap.size < w4.heap.size := by omega
          have hl2_4 : w2.heap.size ≤ w4.heap.size := by omega
          try have hm2_4 : w2.heap.size < w4.heap.size := by omega
          have hl3_4 : w3.heap.size ≤ w4.heap.size := by omega
          try have hm3_4 : w3.heap.size < w4.heap.size := by omega
          refine each_cons ?_ (each_nil)
          · refine wpOp_go (by rfl) (Eq.refl _) (by go_simp; done) ?_
            intro K hK
            go_simp
            try simp only [Act.put]
            refine hK _ _ (by repeat (first | (with_reducible exact Below.refl _ _) | (with_reducible assumption) | ((with_reducible refine Below.setCell ?_ ?_ _); rotate_left; · (first | exact Nat.le_refl _ | (simp; done) | (simp; omega) | omega)) | ((with_reducible refine Below.alloc ?_ ?_ _); rotate_left; · (first | exact Nat.le_refl _ | (simp; done) | (simp; omega) | omega)) | (with_reducible apply Below.drew) | (with_reducible apply below_drewN') | (refine Below.trans ?_ (Below.mono (by assumption) (by first | exact Nat.le_refl _ | (simp; done) | (simp; omega) | omega))) | exact Below.refl _ _ | assumption)) ?_
            clear hK K
            refine wpW_end (by kernel_rfl) ?_
            intro w5 hg5 hS5
            have hc5 := (bcell hg5).1
            have hf5 := (bcell hg5).2
            have hz5 := hg5.size
            try simp at hz5
            have hl1_5 : w1.heap.size ≤ w5.heap.size := by omega
            try have hm1_5 : w1.heap.size < w5.heap.size := by omega
            have hl2_5 : w2.heap.size ≤ w5.heap.size := by omega
            try have hm2_5 : w2.heap.size < w5.heap.size := by omega
            have hl3_5 : w3.heap.size ≤ w5.heap.size := by omega
            try have hm3_5 : w3.heap.size < w5.heap.size := by omega
            have hl4_5 : w4.heap.size ≤ w5.heap.size := by omega
            try have hm4_5 : w4.heap.size < w5.heap.size := by omega
            unfold NQ
            dsimp only
            go_wp2_with fail
            go_meet
            first
              | (obtain ⟨g1, g2, g3, g4, g5⟩ := two_new hS1 hg2 hg3; obtain ⟨g6, g7⟩ := two_set g1 g2 g3 hg4 hg5; exact ⟨_, _, rfl, rfl, g6, g7, hS5⟩)
              | (obtain ⟨g1, g2, g3, g4, g5⟩ := two_new hS1 hg2 hg3; obtain ⟨g6, g7⟩ := two_set g2 g1 (Ne.symm g3) hg4 hg5; exact ⟨_, _, rfl, rfl, g6, g7, hS5⟩)
  case rest =>
    obtain ⟨r, o, rfl, rfl, hr, ho, hB⟩ := hcut
    have b1 := b0.gr hB
    have y1 := y0.gr hB
    have hBB := hB0.trans (Below.mono hB (Below.size hB0))
    clear b0 y0 hB0 hB hsz
    have hwx : -40000 ≤ tx - fx ∧ tx - fx ≤ 40000 := by omega
    have hwz : -40000 ≤ tz - fz ∧ tz - fz ≤ 40000 := by omega
    have hdx : -120000 ≤ x - fx ∧ x - fx ≤ 120000 := by omega
    have hdz : -120000 ≤ z - fz ∧ z - fz ≤ 120000 := by omega
    have hex : -120000 ≤ x - tx ∧ x - tx ≤ 120000 := by omega
    have hez : -120000 ≤ z - tz ∧ z - tz ≤ 120000 := by omega
    have HN : Hid (nearB ⟨fx, fz, tx, tz⟩ x z most = if (tx - fx) * (x - fx) + (tz - fz) * (z - fz) ≤ 0 then decide ((x - fx) * (x - fx) + (z - fz) * (z - fz) ≤ most * most)
      else if (tx - fx) * (tx - fx) + (tz - fz) * (tz - fz) ≤ (tx - fx) * (x - fx) + (tz - fz) * (z - fz) then decide ((x - tx) * (x - tx) + (z - tz) * (z - tz) ≤ most * most)
      else decide (((tx - fx) * (z - fz) - (tz - fz) * (x - fx)) * ((tx - fx) * (z - fz) - (tz - fz) * (x - fx)) ≤ most * most * ((tx - fx) * (tx - fx) + (tz - fz) * (tz - fz)))) := Lib.hid rfl
    unfold spC at hr ho
    generalize tx - fx = wx at *
    generalize tz - fz = wz at *
    generalize x - fx = dx at *
    generalize z - fz = dz at *
    have lr := hr.lt
    have lo := ho.lt
    have r0 : wc.cell? ⟨r, 0, none⟩ = some (.int .i64 wx) := hr.cell 0
    have r1 : wc.cell? ⟨r, 1, none⟩ = some (.int .i64 wz) := hr.cell 1
    have o0 : wc.cell? ⟨o, 0, none⟩ = some (.int .i64 dx) := ho.cell 0
    have o1 : wc.cell? ⟨o, 1, none⟩ = some (.int .i64 dz) := ho.cell 1
    have m1 := mul_bd wx dx 40000 120000 hwx hdx
    have m2 := mul_bd wz dz 40000 120000 hwz hdz
    have m3 := mul_bd wx wx 40000 40000 hwx hwx
    have m4 := mul_bd wz wz 40000 40000 hwz hwz
    have m5 := mul_bd wx dz 40000 120000 hwx hdz
    have m6 := mul_bd wz dx 40000 120000 hwz hdx
    have m7 := mul_bd most most 20000 20000 (by omega) (by omega)
    have n7 := sq_nn most
    go_wp2_with fail
    refine (dot_any wx wz dx dz (by omega) (by omega) (by omega) (by omega) _).mono ?_
    rintro e w1 ⟨rfl, hB1⟩
    have hr := hr.gr hB1
    have ho := ho.gr hB1
    have b1 := b1.gr hB1
    have y1 := y1.gr hB1
    have hBB := hBB.trans (Below.mono hB1 (Below.size hBB))
    clear hB1 lr lo r0 r1 o0 o1
    by_cases q1 : wx * dx + wz * dz ≤ 0
    · have lo := ho.lt
      have o0 : w1.cell? ⟨o, 0, none⟩ = some (.int .i64 dx) := ho.cell 0
      have o1 : w1.cell? ⟨o, 1, none⟩ = some (.int .i64 dz) := ho.cell 1
      have HV : Hid (nearB ⟨fx, fz, tx, tz⟩ x z most = decide (dx * dx + dz * dz ≤ most * most)) := Lib.hid (by rw [HN.out, if_pos q1])
      clear HN
      generalize wx * dx + wz * dz = u at *
      go_wp2_with fail
      refine (atMost_any dx dz most (by omega) (by omega) (by omega) _).mono ?_
      rintro e w2 ⟨rfl, hB2⟩
      go_wp2
      go_ret
      exact ⟨by rw [HV.out]; rfl, hBB.trans (Below.mono hB2 (Below.size hBB))⟩
    · have lr := hr.lt
      have r0 : w1.cell? ⟨r, 0, none⟩ = some (.int .i64 wx) := hr.cell 0
      have r1 : w1.cell? ⟨r, 1, none⟩ = some (.int .i64 wz) := hr.cell 1
      rw [if_neg q1] at HN
      generalize hu : wx * dx + wz * dz = u at *
      have HU := Lib.hid hu; clear hu
      go_wp2_with fail
      refine (square_any wx wz (by omega) (by omega) _).mono ?_
      rintro e w2 ⟨rfl, hB2⟩
      have hr := hr.gr hB2
      have ho := ho.gr hB2
      have b1 := b1.gr hB2
      have y1 := y1.gr hB2
      have hBB := hBB.trans (Below.mono hB2 (Below.size hBB))
      clear hB2 lr r0 r1
      by_cases q2 : wx * wx + wz * wz ≤ u
      · have HV : Hid (nearB ⟨fx, fz, tx, tz⟩ x z most = decide ((x - tx) * (x - tx) + (z - tz) * (z - tz) ≤ most * most)) := Lib.hid (by rw [HN.out, if_pos q2])
        clear HN
        generalize wx * wx + wz * wz = sq at *
        have lb := b1.lt
        have ly := y1.lt
        have v3 : w2.cell? ⟨w.heap.size, 3, none⟩ = some (.int .i64 tx) := b1.cell 3
        have v4 : w2.cell? ⟨w.heap.size, 4, none⟩ = some (.int .i64 tz) := b1.cell 4
        have u0 : w2.cell? ⟨w.heap.size + 1, 0, none⟩ = some (.int .i64 x) := y1.cell 0
        have u1 : w2.cell? ⟨w.heap.size + 1, 1, none⟩ = some (.int .i64 z) := y1.cell 1
        go_wp2_with fail
        refine (from_any tx tz x z (by omega) (by omega) (by omega) (by omega) _).mono ?_
        rintro e w3 ⟨rfl, hB3⟩
        have hBB := hBB.trans (Below.mono hB3 (Below.size hBB))
        clear hB3 lb ly v3 v4 u0 u1 b1 y1 hr ho
        generalize x - tx = ex at *
        generalize z - tz = ez at *
        go_wp2_with fail
        refine (atMost_any ex ez most (by omega) (by omega) (by omega) _).mono ?_
        rintro e w4 ⟨rfl, hB4⟩
        go_wp2
        go_ret
        exact ⟨by rw [HV.out]; rfl, hBB.trans (Below.mono hB4 (Below.size hBB))⟩
      · have HV : Hid (nearB ⟨fx, fz, tx, tz⟩ x z most = decide ((wx * dz - wz * dx) * (wx * dz - wz * dx) ≤ most * most * (wx * wx + wz * wz))) := Lib.hid (by rw [HN.out, if_neg q2])
        clear HN
        have n3 := sq_nn wx
        have n4 := sq_nn wz
        clear b1 y1
        have lr := hr.lt
        have lo := ho.lt
        have r0 : w2.cell? ⟨r, 0, none⟩ = some (.int .i64 wx) := hr.cell 0
        have r1 : w2.cell? ⟨r, 1, none⟩ = some (.int .i64 wz) := hr.cell 1
        have o0 : w2.cell? ⟨o, 0, none⟩ = some (.int .i64 dx) := ho.cell 0
        have o1 : w2.cell? ⟨o, 1, none⟩ = some (.int .i64 dz) := ho.cell 1
        go_wp2_with fail
        refine (cross_any wx wz dx dz (by omega) (by omega) (by omega) (by omega) _).mono ?_
        rintro e w3 ⟨rfl, hB3⟩
        have hr := hr.gr hB3
        have hBB := hBB.trans (Below.mono hB3 (Below.size hBB))
        clear hB3 lr lo r0 r1 o0 o1 ho m1 m2 HU
        have hcr : -10000000000 ≤ wx * dz - wz * dx ∧ wx * dz - wz * dx ≤ 10000000000 := by omega
        generalize wx * dz - wz * dx = cr at *
        clear m5 m6
        have hmx : 0 ≤ max cr (-cr) ∧ max cr (-cr) ≤ 10000000000 := by omega
        have HM : Hid (max cr (-cr) * max cr (-cr) = cr * cr) := Lib.hid (max_sq cr)
        go_wp2_with fail
        refine (mulU_any (max cr (-cr)) (max cr (-cr)) ⟨by omega, by omega⟩ ⟨by omega, by omega⟩ _).mono ?_
        rintro e w4 ⟨h, l, rfl, HP, hh, hl, rfl⟩
        rw [HM.out] at HP
        have hms : 0 ≤ most * most * (wx * wx + wz * wz) ∧ most * most * (wx * wx + wz * wz) ≤ 400000000 * 3200000000 := by
          have := mul_bd (most * most) (wx * wx + wz * wz) 400000000 3200000000 (by omega) (by omega)
          have := Int.mul_nonneg (a := most * most) (b := wx * wx + wz * wz) (by omega) (by omega)
          omega
        have hmm : 0 ≤ most * most ∧ most * most ≤ 400000000 := by omega
        have hsq : 0 ≤ wx * wx + wz * wz ∧ wx * wx + wz * wz ≤ 3200000000 := by omega
        have lr := hr.lt
        have r0 : w3.cell? ⟨r, 0, none⟩ = some (.int .i64 wx) := hr.cell 0
        have r1 : w3.cell? ⟨r, 1, none⟩ = some (.int .i64 wz) := hr.cell 1
        clear hmx HM
        generalize max cr (-cr) = mx at *
        have h2 := HP.out
        by_cases q3 : h = 0
        · subst q3
          have HV2 : Hid (decide (cr * cr ≤ most * most * (wx * wx + wz * wz)) = decide ((l : Int) ≤ most * most * (wx * wx + wz * wz))) := Lib.hid (by rw [decide_eq_decide]; omega)
          clear h2 HP
          go_wp2_with fail
          refine (square_any wx wz (by omega) (by omega) _).mono ?_
          rintro e w5 ⟨rfl, hB5⟩
          generalize wx * wx + wz * wz = sq at *
          generalize most * most = mm at *
          go_wp2
          go_ret
          exact ⟨by rw [HV.out, HV2.out]; rfl, hBB.trans (Below.mono hB5 (Below.size hBB))⟩
        · have HV2 : Hid (decide (cr * cr ≤ most * most * (wx * wx + wz * wz)) = false) := Lib.hid (by
            rw [decide_eq_false_iff_not]; omega)
          have q4 : ((h : Int) == 0) = false := by simp; omega
          clear h2 HP
          go_wp2
          go_ret
          exact ⟨by rw [HV.out, HV2.out]; rfl, hBB⟩
end Go.Proofs.YtfbnpfhnffahdaaGreatDoor

namespace Go.Proofs.YtfbnpfhnffahdaaGreatDoor
open Go.RowKit

theorem blk2 {w : World} {g t : Nat} {v0 v1 : Value} (h : Blk w g t #[v0, v1]) : w.cell? ⟨g, 0, none⟩ = some v0 ∧ w.cell? ⟨g, 1, none⟩ = some v1 ∧ ∀ i, w.frozen? ⟨g, i, none⟩ = false := ⟨h.cell 0, h.cell 1, h.frozen⟩
theorem blk5 {w : World} {g t : Nat} {v0 v1 v2 v3 v4 : Value} (h : Blk w g t #[v0, v1, v2, v3, v4]) : w.cell? ⟨g, 0, none⟩ = some v0 ∧ w.cell? ⟨g, 1, none⟩ = some v1 ∧ w.cell? ⟨g, 2, none⟩ = some v2 ∧ w.cell? ⟨g, 3, none⟩ = some v3 ∧ w.cell? ⟨g, 4, none⟩ = some v4 ∧ ∀ i, w.frozen? ⟨g, i, none⟩ = false := ⟨h.cell 0, h.cell 1, h.cell 2, h.cell 3, h.cell 4, h.frozen⟩

set_option maxRecDepth 100000 in
set_option maxHeartbeats 1000000 in
theorem zone1_any (nm : ByteArray) (f : Fc) (x z thick zone : Int) (bp bj : Nat) (w : World) (hf : plOk f thick) (ht : thick ≤ 20000) (hx : -100000 ≤ x ∧ x ≤ 100000) (hz : -100000 ≤ z ∧ z ≤ 100000) (hm : 0 ≤ zone ∧ zone ≤ 20000)
    (h0 : w.cell? ⟨bp, 0, none⟩ = some (.int .i64 x)) (h1 : w.cell? ⟨bp, 1, none⟩ = some (.int .i64 z)) (h2 : w.cell? ⟨bj, 2, none⟩ = some (.int .i64 zone)) :
    Calls Tryz.prog 79 #[.agg (fcC nm f), .pointer (some ⟨bp, 0, none⟩), .pointer (some ⟨bj, 0, none⟩)] w fun e w' => e = .returned (.bool (nearB f x z zone)) ∧ Below w.heap.size w w' := by
  obtain ⟨f1, f2, f3, f4, f5, f6, f7, f8, _⟩ := hf
  have hlp := World.block_lt_of_cell? _ _ h0
  have hlj := World.block_lt_of_cell? _ _ h2
  have hN := Lib.hid (near_any nm f x z zone ⟨f1, f2⟩ ⟨f3, f4⟩ ⟨f5, by omega⟩ ⟨f7, by omega⟩ hx hz hm)
  unfold fcC at *
  go_enter Tryz.func79, Tryz.ntmps79
  go_wp2_with fail
  refine (hN.out _).mono ?_
  rintro e w1 ⟨rfl, hB1⟩
  go_wp2
  go_ret
  exact ⟨rfl, Below.trans ((Below.refl _ _).alloc (Nat.le_refl _) _) (hB1.mono (by simp))⟩

set_option maxHeartbeats 1000000 in
theorem zoneIdx_any (fs : List (ByteArray × Fc)) (A : Option Addr) (c : Nat) (x z thick zone : Int) (bp bj B : Nat) (w : World) (hn : fs.length ≤ 1000000) (hR : Row w B 5 A fs.length (fcsC fs)) (hB : B ≤ w.heap.size)
    (hf : ∀ p ∈ fs, plOk p.2 thick) (ht : thick ≤ 20000) (hx : -100000 ≤ x ∧ x ≤ 100000) (hz : -100000 ≤ z ∧ z ≤ 100000) (hm : 0 ≤ zone ∧ zone ≤ 20000)
    (h0 : w.cell? ⟨bp, 0, none⟩ = some (.int .i64 x)) (h1 : w.cell? ⟨bp, 1, none⟩ = some (.int .i64 z)) (h2 : w.cell? ⟨bj, 2, none⟩ = some (.int .i64 zone)) :
    Calls Tryz.prog 115 #[.slice A fs.length c, .func (.func 79) #[] #[.pointer (some ⟨bp, 0, none⟩), .pointer (some ⟨bj, 0, none⟩)]] w fun e w' => ∃ r : Int, e = .returned (.int .i64 r) ∧ Hid (decide (0 ≤ r) = fs.any fun p => nearB p.2 x z zone) ∧ Below w.heap.size w w' := by
  have HF := Lib.hid hf; clear hf
  have hlp := World.block_lt_of_cell? _ _ h0
  have hlj := World.block_lt_of_cell? _ _ h2
  have H0 := Lib.hid (And.intro h0 (And.intro h1 h2)); clear h0 h1 h2
  go_enter Tryz.func115, Tryz.ntmps115
  go_wp2
  go_loopw [8] (fun i wr => ∃ k : Nat, k ≤ fs.length ∧ i = .int .i64 k ∧ Hid ((fs.take k).any (fun p => nearB p.2 x z zone) = false) ∧ Below w.heap.size w wr) (fun i _ => fs.length - (intOf i).toNat)
  case atStart => exact ⟨0, Nat.zero_le _, rfl, rfl, Below.refl _ _⟩
  case round =>
    obtain ⟨k, hk, rfl, HI, hB'⟩ := hrel
    by_cases hlt : k < fs.length
    · obtain ⟨g, o, hA, hg, c0, c1, c2, c3, c4⟩ := faceCells (hR.below hB' hB) hlt
      subst hA
      have hp := HF.out _ (List.getElem_mem hlt)
      have hN := Lib.hid (zone1_any fs[k].1 fs[k].2 x z thick zone bp bj _ hp ht hx hz hm ((hB'.cell (p := ⟨bp, 0, none⟩) hlp).trans H0.out.1) ((hB'.cell (p := ⟨bp, 1, none⟩) hlp).trans H0.out.2.1) ((hB'.cell (p := ⟨bj, 2, none⟩) hlj).trans H0.out.2.2))
      clear hp
      cases hs : nearB fs[k].2 x z zone
      · have HS := Lib.hid hs; clear hs
        go_wp2_with fail
        refine hN.out.mono ?_
        rw [HS.out]
        rintro e w1 ⟨rfl, hB1⟩; obtain ⟨hc1, hf1⟩ := bcell hB1; have hz1 := hB1.size; (try simp at hz1)
        go_wp2
        refine ⟨⟨k + 1, by omega, by go_num, by rw [any_take_snoc _ _ hlt, HI.out, HS.out]; rfl, Below.trans hB' (hB1.mono (Below.size hB'))⟩, by simp [intOf]; omega⟩
      · have HS := Lib.hid hs; clear hs
        go_wp2_with fail
        refine hN.out.mono ?_
        rw [HS.out]
        rintro e w1 ⟨rfl, hB1⟩; obtain ⟨hc1, hf1⟩ := bcell hB1; have hz1 := hB1.size; (try simp at hz1)
        go_wp2
        go_ret
        exact ⟨_, rfl, Lib.hid (by rw [any_of_take _ _ hlt _ HS.out]; simp), Below.trans hB' (hB1.mono (Below.size hB'))⟩
    · obtain rfl : k = fs.length := by omega
      go_wp2
      go_ret
      exact ⟨_, rfl, by rw [List.take_length] at HI; rw [HI.out]; rfl, hB'⟩

set_option maxHeartbeats 400000 in
theorem zoneHas_any (fs : List (ByteArray × Fc)) (A : Option Addr) (c : Nat) (x z thick zone : Int) (bp bj B : Nat) (w : World) (hn : fs.length ≤ 1000000) (hR : Row w B 5 A fs.length (fcsC fs)) (hB : B ≤ w.heap.size)
    (hf : ∀ p ∈ fs, plOk p.2 thick) (ht : thick ≤ 20000) (hx : -100000 ≤ x ∧ x ≤ 100000) (hz : -100000 ≤ z ∧ z ≤ 100000) (hm : 0 ≤ zone ∧ zone ≤ 20000)
    (h0 : w.cell? ⟨bp, 0, none⟩ = some (.int .i64 x)) (h1 : w.cell? ⟨bp, 1, none⟩ = some (.int .i64 z)) (h2 : w.cell? ⟨bj, 2, none⟩ = some (.int .i64 zone)) :
    Calls Tryz.prog 78 #[.slice A fs.length c, .func (.func 79) #[] #[.pointer (some ⟨bp, 0, none⟩), .pointer (some ⟨bj, 0, none⟩)]] w fun e w' => e = .returned (.bool (fs.any fun p => nearB p.2 x z zone)) ∧ Below w.heap.size w w' := by
  go_enter Tryz.func78, Tryz.ntmps78
  go_wp2_with fail
  refine (zoneIdx_any fs A c x z thick zone bp bj B _ hn hR hB hf ht hx hz hm h0 h1 h2).mono ?_
  rintro e w1 ⟨r, rfl, HR, hB1⟩
  go_wp2
  go_ret
  exact ⟨by rw [← HR.out]; rfl, hB1⟩

/-- Whether a place is in the zone of a right joint; with the error. -/
def zoneB (j : Jo) (x z : Int) : Bool := wi z 0 j.thick && j.fs.any fun p => nearB p.2 x z j.zone
def inZoneR (j : Jo) (x z : Int) : Bool × Int := if (jointE j).2 = 0 then (if wi x (-100000) 100000 && wi z (-100000) 100000 then (zoneB j x z, 0) else (false, 2)) else (false, (jointE j).2)

theorem plOk_all {j : Jo} (h : (jointE j).2 = 0) : ∀ p ∈ j.fs, plOk p.2 j.thick := by
  intro p hp
  obtain ⟨k, hk, rfl⟩ := List.mem_iff_getElem.1 hp
  exact plOk_of h hk

set_option maxRecDepth 100000 in
set_option maxHeartbeats 1000000 in
theorem inZone_any (j : Jo) (x z : Int) (A : Option Addr) (c B : Nat) (w : World) (hj : JoOk j A c B w) (hx : I64 x) (hz : I64 z) :
    Calls Tryz.prog 37 #[.agg (joC j A c), .agg #[.int .i64 x, .int .i64 z]] w fun e w' => e = .returned (.tuple #[.bool (inZoneR j x z).1, .int .i64 (inZoneR j x z).2]) ∧ Below w.heap.size w w' := by
  have b0 := (Blk.new w 24 (joC j A c)).alloc (.cells #[.int .i64 x, .int .i64 z] 55 (0, 0))
  have y0 := Blk.new' (w.alloc (.cells (joC j A c) 24)) 55 #[.int .i64 x, .int .i64 z] (g := w.heap.size + 1) (by simp)
  have hBB : Below w.heap.size w ((w.alloc (.cells (joC j A c) 24)).alloc (.cells #[.int .i64 x, .int .i64 z] 55)) := ((Below.refl _ _).alloc (Nat.le_refl _) _).alloc (by simp) _
  have hj1 := hj.below hBB hj.base
  unfold joC at *
  by_cases h0 : (jointE j).2 = 0
  case neg =>
    have h1 : ((jointE j).2 != 0) = true := by simpa using h0
    have HE : Hid (inZoneR j x z = (false, (jointE j).2)) := by unfold inZoneR; rw [if_neg h0]; rfl
    clear h0
    go_enter Tryz.func37, Tryz.ntmps37
    have l_b0 := b0.lt
    obtain ⟨t0, t1, t2, t3⟩ := jo_cells b0
    go_wp2_with fail
    refine (jointErr_any j A c B _ hj1.nm hj1.fs hj1.len hj1.cap hj1.row hj1.base).mono ?_
    rintro e wc1 ⟨rfl, hBc1⟩
    replace b0 := b0.gr hBc1
    replace hBB := hBB.trans (Below.mono hBc1 (Below.size hBB))
    clear hBc1
    clear l_b0 t0 t1 t2 t3
    have l_b0 := b0.lt
    obtain ⟨t0, t1, t2, t3⟩ := jo_cells b0
    go_wp2
    go_ret2
    exact ⟨by rw [HE.out]; rfl, hBB⟩
  have h1 : ((jointE j).2 != 0) = false := by simpa using h0
  have hpl := Lib.hid (plOk_all h0)
  obtain ⟨a1, a2, a3, a4, a5, _⟩ := jointE_zero h0
  cases w1 : wi x (-100000) 100000
  case false =>
    have HE : Hid (inZoneR j x z = (false, 2)) := by unfold inZoneR; rw [if_pos h0, w1]; rfl
    clear h0
    have W1 := Lib.hid w1; clear w1
    go_enter Tryz.func37, Tryz.ntmps37
    have l_b0 := b0.lt
    obtain ⟨t0, t1, t2, t3⟩ := jo_cells b0
    have l_y0 := y0.lt
    obtain ⟨u0, u1, _⟩ := blk2 y0
    go_wp2_with fail
    refine (jointErr_any j A c B _ hj1.nm hj1.fs hj1.len hj1.cap hj1.row hj1.base).mono ?_
    rintro e wc2 ⟨rfl, hBc2⟩
    replace b0 := b0.gr hBc2
    replace y0 := y0.gr hBc2
    replace hBB := hBB.trans (Below.mono hBc2 (Below.size hBB))
    clear hBc2
    clear l_b0 t0 t1 t2 t3 l_y0 u0 u1
    have l_b0 := b0.lt
    have l_y0 := y0.lt
    obtain ⟨t0, t1, t2, t3⟩ := jo_cells b0
    obtain ⟨u0, u1, _⟩ := blk2 y0
    go_wp2_with fail
    refine (small_any x 100000 (by omega) (by omega) _).mono ?_
    rw [W1.out]
    rintro e wq ⟨rfl, rfl⟩
    go_wp2
    go_ret2
    exact ⟨by rw [HE.out]; rfl, hBB⟩
  case true =>
  cases w2 : wi z (-100000) 100000
  case false =>
    have HE : Hid (inZoneR j x z = (false, 2)) := by unfold inZoneR; rw [if_pos h0, w1, w2]; rfl
    clear h0
    have W1 := Lib.hid w1; clear w1
    have W2 := Lib.hid w2; clear w2
    go_enter Tryz.func37, Tryz.ntmps37
    have l_b0 := b0.lt
    obtain ⟨t0, t1, t2, t3⟩ := jo_cells b0
    have l_y0 := y0.lt
    obtain ⟨u0, u1, _⟩ := blk2 y0
    go_wp2_with fail
    refine (jointErr_any j A c B _ hj1.nm hj1.fs hj1.len hj1.cap hj1.row hj1.base).mono ?_
    rintro e wc3 ⟨rfl, hBc3⟩
    replace b0 := b0.gr hBc3
    replace y0 := y0.gr hBc3
    replace hBB := hBB.trans (Below.mono hBc3 (Below.size hBB))
    clear hBc3
    clear l_b0 t0 t1 t2 t3 l_y0 u0 u1
    have l_b0 := b0.lt
    have l_y0 := y0.lt
    obtain ⟨t0, t1, t2, t3⟩ := jo_cells b0
    obtain ⟨u0, u1, _⟩ := blk2 y0
    go_wp2_with fail
    refine (small_any x 100000 (by omega) (by omega) _).mono ?_
    rw [W1.out]
    rintro e wq ⟨rfl, rfl⟩
    go_wp2_with fail
    refine (small_any z 100000 (by omega) (by omega) _).mono ?_
    rw [W2.out]
    rintro e wq ⟨rfl, rfl⟩
    go_wp2
    go_ret2
    exact ⟨by rw [HE.out]; rfl, hBB⟩
  case true =>
  have HE : Hid (inZoneR j x z = (zoneB j x z, 0)) := by unfold inZoneR; rw [if_pos h0, w1, w2]; rfl
  clear h0
  have hx' : -100000 ≤ x ∧ x ≤ 100000 := by simpa [wi] using w1
  have hz' : -100000 ≤ z ∧ z ≤ 100000 := by simpa [wi] using w2
  have W1 := Lib.hid w1; clear w1
  have W2 := Lib.hid w2; clear w2
  cases w3 : wi z 0 j.thick
  case false =>
    have HV : Hid (zoneB j x z = false) := by unfold zoneB; rw [w3]; rfl
    have W3 := Lib.hid w3; clear w3
    go_enter Tryz.func37, Tryz.ntmps37
    have l_b0 := b0.lt
    obtain ⟨t0, t1, t2, t3⟩ := jo_cells b0
    have l_y0 := y0.lt
    obtain ⟨u0, u1, _⟩ := blk2 y0
    go_wp2_with fail
    refine (jointErr_any j A c B _ hj1.nm hj1.fs hj1.len hj1.cap hj1.row hj1.base).mono ?_
    rintro e wc4 ⟨rfl, hBc4⟩
    replace b0 := b0.gr hBc4
    replace y0 := y0.gr hBc4
    replace hBB := hBB.trans (Below.mono hBc4 (Below.size hBB))
    clear hBc4
    clear l_b0 t0 t1 t2 t3 l_y0 u0 u1
    have l_b0 := b0.lt
    have l_y0 := y0.lt
    obtain ⟨t0, t1, t2, t3⟩ := jo_cells b0
    obtain ⟨u0, u1, _⟩ := blk2 y0
    go_wp2_with fail
    refine (small_any x 100000 (by omega) (by omega) _).mono ?_
    rw [W1.out]
    rintro e wq ⟨rfl, rfl⟩
    go_wp2_with fail
    refine (small_any z 100000 (by omega) (by omega) _).mono ?_
    rw [W2.out]
    rintro e wq ⟨rfl, rfl⟩
    go_wp2_with fail
    refine (within_any z 0 j.thick _).mono ?_
    rw [W3.out]
    rintro e wq ⟨rfl, rfl⟩
    go_wp2
    go_ret2
    exact ⟨by rw [HE.out, HV.out]; rfl, hBB⟩
  case true =>
  have HV : Hid (zoneB j x z = j.fs.any fun p => nearB p.2 x z j.zone) := by unfold zoneB; rw [w3]; rfl
  have W3 := Lib.hid w3; clear w3
  go_enter Tryz.func37, Tryz.ntmps37
  have l_b0 := b0.lt
  obtain ⟨t0, t1, t2, t3⟩ := jo_cells b0
  have l_y0 := y0.lt
  obtain ⟨u0, u1, _⟩ := blk2 y0
  go_wp2_with fail
  refine (jointErr_any j A c B _ hj1.nm hj1.fs hj1.len hj1.cap hj1.row hj1.base).mono ?_
  rintro e wc5 ⟨rfl, hBc5⟩
  replace b0 := b0.gr hBc5
  replace y0 := y0.gr hBc5
  replace hj1 := hj1.below hBc5 hj1.base
  replace hBB := hBB.trans (Below.mono hBc5 (Below.size hBB))
  clear hBc5
  clear l_b0 t0 t1 t2 t3 l_y0 u0 u1
  have l_b0 := b0.lt
  have l_y0 := y0.lt
  obtain ⟨t0, t1, t2, t3⟩ := jo_cells b0
  obtain ⟨u0, u1, _⟩ := blk2 y0
  go_wp2_with fail
  refine (small_any x 100000 (by omega) (by omega) _).mono ?_
  rw [W1.out]
  rintro e wq ⟨rfl, rfl⟩
  go_wp2_with fail
  refine (small_any z 100000 (by omega) (by omega) _).mono ?_
  rw [W2.out]
  rintro e wq ⟨rfl, rfl⟩
  go_wp2_with fail
  refine (within_any z 0 j.thick _).mono ?_
  rw [W3.out]
  rintro e wq ⟨rfl, rfl⟩
  go_wp2_with fail
  refine (zoneHas_any j.fs A c x z j.thick j.zone (w.heap.size + 1) w.heap.size B _ (by omega) hj1.row hj1.base hpl.out (by omega) hx' hz' (by omega) u0 u1 t2).mono ?_
  rintro e wc6 ⟨rfl, hBc6⟩
  replace b0 := b0.gr hBc6
  replace y0 := y0.gr hBc6
  replace hj1 := hj1.below hBc6 hj1.base
  replace hBB := hBB.trans (Below.mono hBc6 (Below.size hBB))
  clear hBc6
  clear l_b0 t0 t1 t2 t3 l_y0 u0 u1
  have l_b0 := b0.lt
  have l_y0 := y0.lt
  obtain ⟨t0, t1, t2, t3⟩ := jo_cells b0
  obtain ⟨u0, u1, _⟩ := blk2 y0
  go_wp2
  go_ret2
  exact ⟨by rw [HE.out, HV.out]; rfl, hBB⟩

set_option maxRecDepth 100000 in
set_option maxHeartbeats 1000000 in
theorem rNear_any (nm : ByteArray) (f : Fc) (x z most : Int) (hfx : -20000 ≤ f.fx ∧ f.fx ≤ 20000) (htx : -20000 ≤ f.tx ∧ f.tx ≤ 20000) (hfz : 0 ≤ f.fz ∧ f.fz ≤ 20000) (htz : 0 ≤ f.tz ∧ f.tz ≤ 20000)
    (hx : -100000 ≤ x ∧ x ≤ 100000) (hz' : -100000 ≤ z ∧ z ≤ 100000) (hm : 0 ≤ most ∧ most ≤ 20000) (w : World) :
    Calls Tryz.prog 81 #[.agg (fcC nm f), .agg #[.int .i64 x, .int .i64 z], .int .i64 most] w fun e w' => e = .returned (.bool (nearB f x z most)) ∧ Below w.heap.size w w' := by
  obtain ⟨fx, fz, tx, tz⟩ := f
  unfold fcC
  dsimp only at *
  have b0 := (Blk.new w 57 #[.string nm, .int .i64 fx, .int .i64 fz, .int .i64 tx, .int .i64 tz]).alloc (.cells #[.int .i64 x, .int .i64 z] 55 (0, 0))
  have y0 := Blk.new' (w.alloc (.cells #[.string nm, .int .i64 fx, .int .i64 fz, .int .i64 tx, .int .i64 tz] 57)) 55 #[.int .i64 x, .int .i64 z] (g := w.heap.size + 1) (by simp)
  have hB0 : Below w.heap.size w ((w.alloc (.cells #[.string nm, .int .i64 fx, .int .i64 fz, .int .i64 tx, .int .i64 tz] 57)).alloc (.cells #[.int .i64 x, .int .i64 z] 55)) := ((Below.refl _ _).alloc (Nat.le_refl _) _).alloc (by simp) _
  have hwx : -40000 ≤ tx - fx ∧ tx - fx ≤ 40000 := by omega
  have hwz : -40000 ≤ tz - fz ∧ tz - fz ≤ 40000 := by omega
  have hdx : -120000 ≤ x - fx ∧ x - fx ≤ 120000 := by omega
  have hdz : -120000 ≤ z - fz ∧ z - fz ≤ 120000 := by omega
  have hex : -120000 ≤ x - tx ∧ x - tx ≤ 120000 := by omega
  have hez : -120000 ≤ z - tz ∧ z - tz ≤ 120000 := by omega
  have HN : Hid (nearB ⟨fx, fz, tx, tz⟩ x z most = if (tx - fx) * (x - fx) + (tz - fz) * (z - fz) ≤ 0 then decide ((x - fx) * (x - fx) + (z - fz) * (z - fz) ≤ most * most)
    else if (tx - fx) * (tx - fx) + (tz - fz) * (tz - fz) ≤ (tx - fx) * (x - fx) + (tz - fz) * (z - fz) then decide ((x - tx) * (x - tx) + (z - tz) * (z - tz) ≤ most * most)
    else decide (((tx - fx) * (z - fz) - (tz - fz) * (x - fx)) * ((tx - fx) * (z - fz) - (tz - fz) * (x - fx)) ≤ most * most * ((tx - fx) * (tx - fx) + (tz - fz) * (tz - fz)))) := Lib.hid rfl
  go_enter Tryz.func81, Tryz.ntmps81
  have l_b0 := b0.lt
  obtain ⟨v0, v1, v2, v3, v4, _⟩ := blk5 b0
  have l_y0 := y0.lt
  obtain ⟨u0, u1, _⟩ := blk2 y0
  go_wp2_with fail
  go_quiet (fail)
  go_wp2_with fail
  go_quiet (fail)
  clear hdx hdz hwx hwz hex hez
  have hwx : -40000 ≤ tx - fx ∧ tx - fx ≤ 40000 := by omega
  have hwz : -40000 ≤ tz - fz ∧ tz - fz ≤ 40000 := by omega
  have hdx : -120000 ≤ x - fx ∧ x - fx ≤ 120000 := by omega
  have hdz : -120000 ≤ z - fz ∧ z - fz ≤ 120000 := by omega
  have hex : -120000 ≤ x - tx ∧ x - tx ≤ 120000 := by omega
  have hez : -120000 ≤ z - tz ∧ z - tz ≤ 120000 := by omega
  generalize tx - fx = wx at *
  generalize tz - fz = wz at *
  generalize x - fx = dx at *
  generalize z - fz = dz at *
  have m1 := mul_bd wx dx 40000 120000 hwx hdx
  have m2 := mul_bd wz dz 40000 120000 hwz hdz
  have m3 := mul_bd wx wx 40000 40000 hwx hwx
  have m4 := mul_bd wz wz 40000 40000 hwz hwz
  have m5 := mul_bd wx dz 40000 120000 hwx hdz
  have m6 := mul_bd wz dx 40000 120000 hwz hdx
  have m7 := mul_bd most most 20000 20000 (by omega) (by omega)
  have n7 := sq_nn most
  by_cases q1 : wx * dx + wz * dz ≤ 0
  · have m8 := mul_bd dx dx 120000 120000 hdx hdx
    have m9 := mul_bd dz dz 120000 120000 hdz hdz
    have HV : Hid (nearB ⟨fx, fz, tx, tz⟩ x z most = decide (dx * dx + dz * dz ≤ most * most)) := Lib.hid (by rw [HN.out, if_pos q1])
    clear HN
    go_wp2
    go_ret
    exact ⟨by rw [HV.out]; rfl, by repeat (first | exact hB0 | apply below_drewN')⟩
  · rw [if_neg q1] at HN
    by_cases q2 : wx * wx + wz * wz ≤ wx * dx + wz * dz
    · have HV : Hid (nearB ⟨fx, fz, tx, tz⟩ x z most = decide ((x - tx) * (x - tx) + (z - tz) * (z - tz) ≤ most * most)) := Lib.hid (by rw [HN.out, if_pos q2])
      clear HN
      have m8 := mul_bd (x - tx) (x - tx) 120000 120000 hex hex
      have m9 := mul_bd (z - tz) (z - tz) 120000 120000 hez hez
      go_wp2_with fail
      go_quiet (fail)
      go_wp2
      go_ret
      exact ⟨by rw [HV.out]; rfl, by repeat (first | exact hB0 | apply below_drewN')⟩
    · have HV : Hid (nearB ⟨fx, fz, tx, tz⟩ x z most = decide ((wx * dz - wz * dx) * (wx * dz - wz * dx) ≤ most * most * (wx * wx + wz * wz))) := Lib.hid (by rw [HN.out, if_neg q2])
      clear HN
      have n3 := sq_nn wx
      have n4 := sq_nn wz
      have hcr : -10000000000 ≤ wx * dz - wz * dx ∧ wx * dz - wz * dx ≤ 10000000000 := by omega
      have hms : 0 ≤ most * most * (wx * wx + wz * wz) ∧ most * most * (wx * wx + wz * wz) ≤ 400000000 * 3200000000 := by
        have := mul_bd (most * most) (wx * wx + wz * wz) 400000000 3200000000 (by omega) (by omega)
        have := Int.mul_nonneg (a := most * most) (b := wx * wx + wz * wz) (by omega) (by omega)
        omega
      cases hwi : wi (wx * dz - wz * dx) (-3000000000) 3000000000
      · have HV2 : Hid (decide ((wx * dz - wz * dx) * (wx * dz - wz * dx) ≤ most * most * (wx * wx + wz * wz)) = false) := Lib.hid (by
          generalize wx * dz - wz * dx = cr at *
          rw [decide_eq_false_iff_not]
          have : cr < -3000000000 ∨ 3000000000 < cr := by simp [wi] at hwi; omega
          rcases this with h | h
          · have := Int.mul_le_mul (a := 3000000000) (c := -cr) (b := 3000000000) (d := -cr) (by omega) (by omega) (by omega) (by omega)
            rw [Int.neg_mul_neg] at this
            omega
          · have := Int.mul_le_mul (a := 3000000000) (c := cr) (b := 3000000000) (d := cr) (by omega) (by omega) (by omega) (by omega)
            omega)
        have HW := Lib.hid hwi; clear hwi
        go_wp2_with (go_at_call 20; refine (bWithin_any _ _ _ _).mono ?_; rw [HW.out]; rintro e w1 ⟨rfl, rfl⟩)
        go_ret
        exact ⟨by rw [HV.out, HV2.out]; rfl, by repeat (first | exact hB0 | apply below_drewN')⟩
      · have hcr' : -3000000000 ≤ wx * dz - wz * dx ∧ wx * dz - wz * dx ≤ 3000000000 := by simpa [wi] using hwi
        have m10 := mul_bd (wx * dz - wz * dx) (wx * dz - wz * dx) 3000000000 3000000000 hcr' hcr'
        have HW := Lib.hid hwi; clear hwi
        go_wp2_with (go_at_call 20; refine (bWithin_any _ _ _ _).mono ?_; rw [HW.out]; rintro e w1 ⟨rfl, rfl⟩)
        go_ret
        exact ⟨by rw [HV.out]; rfl, by repeat (first | exact hB0 | apply below_drewN')⟩

set_option maxRecDepth 100000 in
set_option maxHeartbeats 1000000 in
theorem rSpotAt_any (nm : ByteArray) (f : Fc) (n d thick : Int) (hf : plOk f thick) (ht : thick ≤ 20000) (hn : 0 ≤ n ∧ n ≤ 1000000000000) (hd : 1 ≤ d ∧ d ≤ 1000000000000) (w : World) :
    Calls Tryz.prog 40 #[.agg (fcC nm f), .agg #[.int .i64 n, .int .i64 d]] w fun e w' => e = .returned (.agg #[.int .i64 (atV f.fx f.tx n d), .int .i64 (atV f.fz f.tz n d)]) ∧ Below w.heap.size w w' := by
  obtain ⟨f1, f2, f3, f4, f5, f6, f7, f8, _⟩ := hf
  obtain ⟨q1, q2⟩ := at_bd (a := f.fx) (b := f.tx) ⟨f1, f2⟩ ⟨f3, f4⟩ hn hd
  obtain ⟨q3, q4⟩ := at_bd (a := f.fz) (b := f.tz) ⟨by omega, by omega⟩ ⟨by omega, by omega⟩ hn hd
  have HX : Hid (∀ x z : Int, Value.agg #[.int .i64 (atV f.fx f.tx n d), .int .i64 (atV f.fz f.tz n d)] = Value.agg #[.int .i64 ((2 * (f.fx * d + (f.tx - f.fx) * n) + d) / (2 * d)), .int .i64 ((2 * (f.fz * d + (f.tz - f.fz) * n) + d) / (2 * d))]) := Lib.hid fun _ _ => rfl
  obtain ⟨fx, fz, tx, tz⟩ := f
  unfold fcC
  dsimp only at *
  have b0 := ((Blk.new w 57 #[.string nm, .int .i64 fx, .int .i64 fz, .int .i64 tx, .int .i64 tz]).alloc (.cells #[.int .i64 n, .int .i64 d] 49 (0, 0))).alloc (.cells #[.int .i64 0, .int .i64 0] 55 (0, 0))
  have y0 := (Blk.new' (w.alloc (.cells #[.string nm, .int .i64 fx, .int .i64 fz, .int .i64 tx, .int .i64 tz] 57)) 49 #[.int .i64 n, .int .i64 d] (g := w.heap.size + 1) (by simp)).alloc (.cells #[.int .i64 0, .int .i64 0] 55 (0, 0))
  have x0 := Blk.new' ((w.alloc (.cells #[.string nm, .int .i64 fx, .int .i64 fz, .int .i64 tx, .int .i64 tz] 57)).alloc (.cells #[.int .i64 n, .int .i64 d] 49)) 55 #[.int .i64 0, .int .i64 0] (g := w.heap.size + 1 + 1) (by simp)
  have hBB : Below w.heap.size w (((w.alloc (.cells #[.string nm, .int .i64 fx, .int .i64 fz, .int .i64 tx, .int .i64 tz] 57)).alloc (.cells #[.int .i64 n, .int .i64 d] 49)).alloc (.cells #[.int .i64 0, .int .i64 0] 55)) := (((Below.refl _ _).alloc (Nat.le_refl _) _).alloc (by simp) _).alloc (by simp; omega) _
  go_enter Tryz.func40, Tryz.ntmps40
  have l_b0 := b0.lt
  obtain ⟨v0, v1, v2, v3, v4, _⟩ := blk5 b0
  have l_y0 := y0.lt
  obtain ⟨u0, u1, _⟩ := blk2 y0
  go_wp2_with fail
  have hX : -60000000000000000 ≤ fx * d + (tx - fx) * n ∧ fx * d + (tx - fx) * n ≤ 60000000000000000 := by omega
  have hZ : -60000000000000000 ≤ fz * d + (tz - fz) * n ∧ fz * d + (tz - fz) * n ≤ 60000000000000000 := by omega
  generalize fx * d + (tx - fx) * n = X at *
  generalize fz * d + (tz - fz) * n = Z at *
  refine wp_region_b 11 (by kernel_rfl) (by kernel_rfl) ?_; simp only [List.take, List.drop]
  repeat (first
    | (apply StepsD.run
       · go_simp
         done
       · intro w' hS K hK
         have hc := (bcell hS).1
         have hf := (bcell hS).2
         have hz := hS.size
         try simp at hz
         go_simp
         try go_bits
         first
           | exact hK _ hS
           | (go_at_call 62; refine (floor_any _ _ ⟨by omega, by omega⟩ ⟨by omega, by omega⟩ _).mono ?_; rintro e w1 ⟨rfl, rfl⟩; exact hK _ hS)
           | exact hK _ (by repeat (first | (with_reducible exact Below.refl _ _) | (with_reducible assumption) | ((with_reducible refine Below.setCell ?_ ?_ _); rotate_left; · (first | exact Nat.le_refl _ | (simp; done) | (simp; omega) | omega)) | ((with_reducible refine Below.alloc ?_ ?_ _); rotate_left; · (first | exact Nat.le_refl _ | (simp; done) | (simp; omega) | omega)) | (with_reducible apply Below.drew) | (with_reducible apply below_drewN') | (refine Below.trans ?_ (Below.mono (by assumption) (by first | exact Nat.le_refl _ | (simp; done) | (simp; omega) | omega))) | exact Below.refl _ _ | assumption))
       · simp [Act.put]
         done)
    | (apply StepsD.pass
       · go_simp
         done
       · simp only [Act.put, List.setIfInBounds_toArray, List.set_cons_succ, List.set_cons_zero]
         rfl))
  refine StepsD.done ?_
  intro w' hS; have hc := (bcell hS).1; have hf := (bcell hS).2; have hz := hS.size; (try simp at hz)
  have xB := x0.gr hS
  have hBC := hBB.trans (Below.mono hS (Below.size hBB))
  clear hc hf
  have zf := xB.frozen
  obtain ⟨z0, z1⟩ : w'.cell? ⟨w.heap.size + 1 + 1, 0, none⟩ = some (.int .i64 0) ∧ w'.cell? ⟨w.heap.size + 1 + 1, 1, none⟩ = some (.int .i64 0) := ⟨xB.cell 0, xB.cell 1⟩
  have lx := xB.lt
  have x2 := (xB.set_ 0 (.int .i64 ((2 * X + d) / (2 * d)))).set_ 1 (.int .i64 ((2 * Z + d) / (2 * d)))
  go_wp2
  have v0 := x2.cell 0
  have v1 := x2.cell 1
  refine bodyPost_ret (v := .agg #[.int .i64 ((2 * X + d) / (2 * d)), .int .i64 ((2 * Z + d) / (2 * d))]) ?_ rfl ⟨by rw [HX.out 0 0], Below.set2 hBC (by omega)⟩
  simp [results, Tryz.results40, go_sem] at v0 v1 ⊢
  simp [v0, v1]

set_option maxRecDepth 100000 in
set_option maxHeartbeats 1000000 in
theorem rInZone_any (j : Jo) (x z : Int) (A : Option Addr) (c B : Nat) (w : World) (hj : JoOk j A c B w) (h0 : (jointE j).2 = 0) (hx : -100000 ≤ x ∧ x ≤ 100000) (hz : -100000 ≤ z ∧ z ≤ 100000) :
    Calls Tryz.prog 38 #[.agg (joC j A c), .agg #[.int .i64 x, .int .i64 z]] w fun e w' => e = .returned (.bool (zoneB j x z)) ∧ Below w.heap.size w w' := by
  have b0 := (Blk.new w 24 (joC j A c)).alloc (.cells #[.int .i64 x, .int .i64 z] 55 (0, 0))
  have y0 := Blk.new' (w.alloc (.cells (joC j A c) 24)) 55 #[.int .i64 x, .int .i64 z] (g := w.heap.size + 1) (by simp)
  have hBB : Below w.heap.size w ((w.alloc (.cells (joC j A c) 24)).alloc (.cells #[.int .i64 x, .int .i64 z] 55)) := ((Below.refl _ _).alloc (Nat.le_refl _) _).alloc (by simp) _
  have HJ := Lib.hid fun W h => JoOk.below hj (w' := W) (C := w.heap.size) h hj.base
  have hpl := Lib.hid (plOk_all h0)
  obtain ⟨a1, a2, a3, a4, a5, _⟩ := jointE_zero h0
  clear h0 hj
  unfold joC at *
  cases w3 : wi z 0 j.thick
  case false =>
    have HV : Hid (zoneB j x z = false) := by unfold zoneB; rw [w3]; rfl
    have W3 := Lib.hid w3; clear w3
    go_enter Tryz.func38, Tryz.ntmps38
    have l_b0 := b0.lt
    obtain ⟨t0, t1, t2, t3⟩ := jo_cells b0
    have l_y0 := y0.lt
    obtain ⟨u0, u1, _⟩ := blk2 y0
    go_wp2_with fail
    refine (bWithin_any z 0 j.thick _).mono ?_
    rw [W3.out]
    rintro e wq ⟨rfl, rfl⟩
    go_wp2
    go_ret
    exact ⟨by rw [HV.out]; rfl, hBB⟩
  case true =>
  have HV : Hid (zoneB j x z = j.fs.any fun p => nearB p.2 x z j.zone) := by unfold zoneB; rw [w3]; rfl
  have W3 := Lib.hid w3; clear w3
  go_enter Tryz.func38, Tryz.ntmps38
  have l_b0 := b0.lt
  obtain ⟨t0, t1, t2, t3⟩ := jo_cells b0
  have l_y0 := y0.lt
  obtain ⟨u0, u1, _⟩ := blk2 y0
  go_wp2_with fail
  refine (bWithin_any z 0 j.thick _).mono ?_
  rw [W3.out]
  rintro e wq ⟨rfl, rfl⟩
  go_wp2
  go_loopw [5] (fun i wr => ∃ k : Nat, k ≤ j.fs.length ∧ i = .int .i64 k ∧ Hid ((j.fs.take k).any (fun p => nearB p.2 x z j.zone) = false) ∧ Blk wr w.heap.size 24 #[.string j.nm, .int .i64 j.thick, .int .i64 j.zone, .slice A j.fs.length c] ∧ Blk wr (w.heap.size + 1) 55 #[.int .i64 x, .int .i64 z] ∧ Below w.heap.size w wr) (fun i _ => j.fs.length - (intOf i).toNat)
  case atStart => exact ⟨0, Nat.zero_le _, rfl, rfl, b0, y0, hBB⟩
  case round =>
    clear b0 y0 hBB
    obtain ⟨k, hk, rfl, HI, b1, y1, hBB⟩ := hrel
    have l_b1 := b1.lt
    obtain ⟨s0, s1, s2, s3, _⟩ := blk4 b1
    have l_y1 := y1.lt
    obtain ⟨u0, u1, _⟩ := blk2 y1
    by_cases hlt : k < j.fs.length
    · obtain ⟨g, o, hA, hg, c0, c1, c2, c3, c4⟩ := faceCells (HJ.out _ hBB).row hlt
      have hgg := (HJ.out _ hBB).base
      have hlg : g < wr.heap.size := by omega
      subst hA
      obtain ⟨p1, p2, p3, p4, p5, p6, p7, p8, _⟩ := hpl.out _ (List.getElem_mem hlt)
      have hN := Lib.hid (rNear_any j.fs[k].1 j.fs[k].2 x z j.zone ⟨p1, p2⟩ ⟨p3, p4⟩ ⟨p5, by omega⟩ ⟨p7, by omega⟩ hx hz ⟨a3, a4⟩)
      clear p1 p2 p3 p4 p5 p6 p7 p8
      have hkc : (k : Int) < (j.fs.length : Int) := by omega
      have hk0 : (0 : Int) ≤ (k : Int) := by omega
      unfold fcC at hN
      cases hs : nearB j.fs[k].2 x z j.zone
      · have HS := Lib.hid hs; clear hs
        go_wp2_with fail
        refine wp_region_b 9 (by kernel_rfl) (by kernel_rfl) ?_; simp only [List.take, List.drop]
        repeat (first
          | (apply StepsD.run
             · go_simp
               done
             · intro w' hS K hK
               have hc := (bcell hS).1
               have hf := (bcell hS).2
               have hz := hS.size
               try simp at hz
               go_simp
               try go_bits
               first
                 | exact hK _ hS
                 | (go_at_call 81; refine (hN.out _).mono ?_; rw [HS.out]; rintro e w1 ⟨rfl, hB1⟩; obtain ⟨hc1, hf1⟩ := bcell hB1; have hz1 := hB1.size; (try simp at hz1); exact hK _ (Below.trans hS (Below.mono hB1 (by first | exact Nat.le_refl _ | (simp; done) | (simp; omega) | omega))))
                 | exact hK _ (by repeat (first | (with_reducible exact Below.refl _ _) | (with_reducible assumption) | ((with_reducible refine Below.setCell ?_ ?_ _); rotate_left; · (first | exact Nat.le_refl _ | (simp; done) | (simp; omega) | omega)) | ((with_reducible refine Below.alloc ?_ ?_ _); rotate_left; · (first | exact Nat.le_refl _ | (simp; done) | (simp; omega) | omega)) | (with_reducible apply Below.drew) | (with_reducible apply below_drewN') | (refine Below.trans ?_ (Below.mono (by assumption) (by first | exact Nat.le_refl _ | (simp; done) | (simp; omega) | omega))) | exact Below.refl _ _ | assumption))
             · simp [Act.put]
               done)
          | (apply StepsD.pass
             · go_simp
               done
             · simp only [Act.put, List.setIfInBounds_toArray, List.set_cons_succ, List.set_cons_zero]
               rfl))
        refine StepsD.done ?_
        intro w' hS; have hc := (bcell hS).1; have hf := (bcell hS).2; have hz := hS.size; (try simp at hz)
        have b1 := b1.gr hS
        have y1 := y1.gr hS
        have hBB := hBB.trans (Below.mono hS (Below.size hBB))
        clear hc hf hS
        go_wp2
        refine ⟨⟨k + 1, by omega, by go_num, by rw [any_take_snoc _ _ hlt, HI.out, HS.out]; rfl, b1, y1, hBB⟩, by simp [intOf]; omega⟩
      · have HS := Lib.hid hs; clear hs
        go_wp2_with fail
        refine wp_region_b 9 (by kernel_rfl) (by kernel_rfl) ?_; simp only [List.take, List.drop]
        repeat (first
          | (apply StepsD.run
             · go_simp
               done
             · intro w' hS K hK
               have hc := (bcell hS).1
               have hf := (bcell hS).2
               have hz := hS.size
               try simp at hz
               go_simp
               try go_bits
               first
                 | exact hK _ hS
                 | (go_at_call 81; refine (hN.out _).mono ?_; rw [HS.out]; rintro e w1 ⟨rfl, hB1⟩; obtain ⟨hc1, hf1⟩ := bcell hB1; have hz1 := hB1.size; (try simp at hz1); exact hK _ (Below.trans hS (Below.mono hB1 (by first | exact Nat.le_refl _ | (simp; done) | (simp; omega) | omega))))
                 | exact hK _ (by repeat (first | (with_reducible exact Below.refl _ _) | (with_reducible assumption) | ((with_reducible refine Below.setCell ?_ ?_ _); rotate_left; · (first | exact Nat.le_refl _ | (simp; done) | (simp; omega) | omega)) | ((with_reducible refine Below.alloc ?_ ?_ _); rotate_left; · (first | exact Nat.le_refl _ | (simp; done) | (simp; omega) | omega)) | (with_reducible apply Below.drew) | (with_reducible apply below_drewN') | (refine Below.trans ?_ (Below.mono (by assumption) (by first | exact Nat.le_refl _ | (simp; done) | (simp; omega) | omega))) | exact Below.refl _ _ | assumption))
             · simp [Act.put]
               done)
          | (apply StepsD.pass
             · go_simp
               done
             · simp only [Act.put, List.setIfInBounds_toArray, List.set_cons_succ, List.set_cons_zero]
               rfl))
        refine StepsD.done ?_
        intro w' hS; have hc := (bcell hS).1; have hf := (bcell hS).2; have hz := hS.size; (try simp at hz)
        have b1 := b1.gr hS
        have y1 := y1.gr hS
        have hBB := hBB.trans (Below.mono hS (Below.size hBB))
        clear hc hf hS
        go_wp2
        go_ret
        exact ⟨by rw [HV.out, any_of_take _ _ hlt _ HS.out]; rfl, hBB⟩
    · obtain rfl : k = j.fs.length := by omega
      go_wp2
      go_ret
      exact ⟨by rw [HV.out]; rw [List.take_length] at HI; rw [HI.out]; rfl, hBB⟩
end Go.Proofs.YtfbnpfhnffahdaaGreatDoor
