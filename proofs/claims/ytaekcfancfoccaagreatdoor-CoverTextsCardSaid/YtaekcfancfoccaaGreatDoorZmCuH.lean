/- Contract of cover.joint: the line of a joint. -/
import Derived.Test.YtaekcfancfoccaaGreatDoorZmCuG
namespace Go.Proofs.YtaekcfancfoccaaGreatDoor
open Go.RowKit Go.Lib

def jointFs : List ByteArray := [⟨#[106, 111, 105, 110, 116]⟩, ⟨#[110, 97, 109, 101]⟩, ⟨#[116, 104, 105, 99, 107]⟩, ⟨#[35]⟩, ⟨#[122, 111, 110, 101]⟩, ⟨#[35]⟩]
theorem lit_list (l : Array UInt8) : (⟨l⟩ : ByteArray).toList = l.toList := ByteArray.toList_eq _
theorem joint_hash (ws : List (ByteArray × Int)) : hashK jointFs ws 6 = [ws.getD 3 w0, ws.getD 5 w0] := by simp [hashK, jointFs, lit_list]
theorem joint_name (ws : List (ByteArray × Int)) (line : Int) : nameK jointFs line ws 6 = ((ws.getD 1 w0).1, line, (ws.getD 1 w0).2) := by simp [nameK, jointFs, lit_list]
theorem joint_form (ws : List (ByteArray × Int)) (h0 : 0 < ws.length) : fieldP jointFs ws 0 = if ¬ (wordT ws 0).toList = [106, 111, 105, 110, 116] then (0, 7) else formP headL ws 1 := by
  have hl : 0 < jointFs.length := by decide
  have e0 : jointFs[0] = (⟨#[106, 111, 105, 110, 116]⟩ : ByteArray) := rfl
  have eW : wordT ws 0 = ws[0].1 := wordT_eq h0
  have l1 : (⟨#[106, 111, 105, 110, 116]⟩ : ByteArray).toList = [106, 111, 105, 110, 116] := lit_list _
  by_cases h : (wordT ws 0).toList = [106, 111, 105, 110, 116]
  · rw [if_neg (not_not_intro h), fieldP_go hl h0 (by
      unfold fieldE
      rw [e0, l1, if_neg (by decide), if_neg (by decide), ← eW, if_pos h.symm])]
    exact field_form (L := headL) (fs := jointFs) rfl (fun k h h2 h1 => by
      match k, h, h1 with
      | 1, _, _ => exact means_n
      | 2, _, _ => exact means_t
      | 3, _, _ => exact means_9
      | 4, _, _ => exact means_z
      | 5, _, _ => exact means_9
      | k + 6, h, _ => exact absurd h (by simp [headL, ByteArray.size])) ws 5 1 rfl (by omega)
  · rw [if_pos h, fieldP_bad hl h0 (n := 7) (by
      unfold fieldE
      rw [e0, l1, if_neg (by decide), if_neg (by decide), ← eW, if_neg (fun e => h e.symm)]) (by decide)]
theorem headP_form {ws : List (ByteArray × Int)} {k : Nat} {n : Int} (h0 : 0 < ws.length) (h : fieldP jointFs ws 0 = (k, n)) (hn : n ≠ 0) : headP ws = (hd0, k, n) := by
  rw [joint_form ws h0] at h
  unfold headP
  split at h
  · rename_i hj
    rw [if_pos hj]
    cases h; rfl
  · rename_i hj
    rw [if_neg hj, if_pos (by rw [h]; exact hn), h]
theorem headP_ok {ws : List (ByteArray × Int)} {k : Nat} (h0 : 0 < ws.length) (h : fieldP jointFs ws 0 = (k, 0)) :
    ws.length = 6 ∧ headP ws = if wi (numT ws 3) 1 20000 = false then (hd0, 3, 2) else if wi (numT ws 5) 0 20000 = false then (hd0, 5, 2) else ((wordT ws 1, numT ws 3, numT ws 5), 0, 0) := by
  rw [joint_form ws h0] at h
  split at h
  · cases h
  · rename_i hj
    have h1 : (formP headL ws 1).2 = 0 := by rw [h]
    refine ⟨formP_zero (L := headL) 5 1 rfl h1 (by decide) h0, ?_⟩
    unfold headP
    rw [if_neg hj, if_neg (by rw [h1]; simp)]

theorem row_blk {w : World} {g t B : Nat} {cs : Array Value} {l : List Value} (h : Blk w g t cs) (hg : g < B) {n size : Nat} (hn : l.length = n * size) (e : cs = l.toArray := by rfl) : Row w B size (some ⟨g, 0, none⟩) n l :=
  ⟨hn, fun _ => ⟨g, 0, rfl, hg, fun j v hv => by
    subst e
    rw [Nat.zero_add, h.cell j]
    simpa using hv⟩⟩
theorem Blk.far4 {g p : Nat} {b : World} {t : TypeId} {cs : Array Value} (h : Blk b g t cs) (hp : g ≠ p) (u0 u1 u2 u3 : Value) : Blk ((((b.setCell ⟨p, 0, none⟩ u0).setCell ⟨p, 1, none⟩ u1).setCell ⟨p, 2, none⟩ u2).setCell ⟨p, 3, none⟩ u3) g t cs :=
  (((h.far (p := ⟨p, 0, none⟩) hp u0).far (p := ⟨p, 1, none⟩) hp u1).far (p := ⟨p, 2, none⟩) hp u2).far (p := ⟨p, 3, none⟩) hp u3
def jtV (q : ByteArray × Int × Int) : Value := .agg #[.string q.1, .int .i64 q.2.1, .int .i64 q.2.2, .slice none 0 0]
set_option maxRecDepth 100000 in
set_option maxHeartbeats 8000000 in
theorem joint_any (line : Int) (ws : List (ByteArray × Int)) (A : Option Addr) (c B : Nat) (w : World) (hL : LibW w) (hn : ws.length ≤ 1000000) (hn0' : 0 < ws.length)
    (hs : ∀ p ∈ ws, p.1.size ≤ 100000 ∧ 0 ≤ p.2 ∧ p.2 ≤ 1000001) (hR : Row w B 3 A ws.length (tknC line ws)) (hB : B ≤ w.heap.size) :
    Calls Tryz.prog 41 #[.slice A ws.length c] w fun e w' => ∃ l cl : Int, e = .returned (.tuple #[jtV (headP ws).1, .agg #[.int .i64 l, .int .i64 cl, .int .i64 (headP ws).2.2]]) ∧ Hid ((headP ws).2.2 ≠ 0 → l = line ∧ cl = colW ws (headP ws).2.1) ∧ Below w.heap.size w w' := by
  have HL := Lib.hid hL; have HS := Lib.hid hs; have HR := Lib.hid hR
  clear hL hs hR
  go_enter Tryz.func41, Tryz.ntmps41
  go_wp2_with fail
  have bj : Blk (((w.alloc (.cells #[.string ⟨#[]⟩, .int .i64 0, .int .i64 0, .slice none 0 0] 24)).alloc (.cells #[.int .i64 0, .int .i64 0, .int .i64 0] 109)).alloc (.cells #[.string ⟨#[106, 111, 105, 110, 116]⟩, .string ⟨#[110, 97, 109, 101]⟩, .string ⟨#[116, 104, 105, 99, 107]⟩, .string ⟨#[35]⟩, .string ⟨#[122, 111, 110, 101]⟩, .string ⟨#[35]⟩] 9)) w.heap.size 24 #[.string ⟨#[]⟩, .int .i64 0, .int .i64 0, .slice none 0 0] := ((Blk.new w _ _).alloc _).alloc _
  have bf : Blk (((w.alloc (.cells #[.string ⟨#[]⟩, .int .i64 0, .int .i64 0, .slice none 0 0] 24)).alloc (.cells #[.int .i64 0, .int .i64 0, .int .i64 0] 109)).alloc (.cells #[.string ⟨#[106, 111, 105, 110, 116]⟩, .string ⟨#[110, 97, 109, 101]⟩, .string ⟨#[116, 104, 105, 99, 107]⟩, .string ⟨#[35]⟩, .string ⟨#[122, 111, 110, 101]⟩, .string ⟨#[35]⟩] 9)) (w.heap.size + 1) 109 #[.int .i64 0, .int .i64 0, .int .i64 0] := (Blk.new' _ _ _ (by simp)).alloc _
  have bs : Blk (((w.alloc (.cells #[.string ⟨#[]⟩, .int .i64 0, .int .i64 0, .slice none 0 0] 24)).alloc (.cells #[.int .i64 0, .int .i64 0, .int .i64 0] 109)).alloc (.cells #[.string ⟨#[106, 111, 105, 110, 116]⟩, .string ⟨#[110, 97, 109, 101]⟩, .string ⟨#[116, 104, 105, 99, 107]⟩, .string ⟨#[35]⟩, .string ⟨#[122, 111, 110, 101]⟩, .string ⟨#[35]⟩] 9)) (w.heap.size + 1 + 1) 9 (strsC jointFs).toArray := Blk.new' _ _ _ (by simp)
  have hB0 : Below w.heap.size w (((w.alloc (.cells #[.string ⟨#[]⟩, .int .i64 0, .int .i64 0, .slice none 0 0] 24)).alloc (.cells #[.int .i64 0, .int .i64 0, .int .i64 0] 109)).alloc (.cells #[.string ⟨#[106, 111, 105, 110, 116]⟩, .string ⟨#[110, 97, 109, 101]⟩, .string ⟨#[116, 104, 105, 99, 107]⟩, .string ⟨#[35]⟩, .string ⟨#[122, 111, 110, 101]⟩, .string ⟨#[35]⟩] 9)) := (by repeat first | (with_reducible first | exact Below.refl _ _ | assumption) | ((with_reducible first | refine Below.setCell ?_ ?_ _ | refine Below.alloc ?_ ?_ _); rotate_left; · first | exact Nat.le_refl _ | (simp; done) | (simp; omega) | omega) | (with_reducible first | apply Below.drew | apply below_drewN') | refine Below.trans ?_ (Below.mono (by assumption) (by first | exact Nat.le_refl _ | (simp; done) | (simp; omega) | omega)) | exact Below.refl _ _ | assumption)
  generalize (((w.alloc (.cells #[.string ⟨#[]⟩, .int .i64 0, .int .i64 0, .slice none 0 0] 24)).alloc (.cells #[.int .i64 0, .int .i64 0, .int .i64 0] 109)).alloc (.cells #[.string ⟨#[106, 111, 105, 110, 116]⟩, .string ⟨#[110, 97, 109, 101]⟩, .string ⟨#[116, 104, 105, 99, 107]⟩, .string ⟨#[35]⟩, .string ⟨#[122, 111, 110, 101]⟩, .string ⟨#[35]⟩] 9)) = W0 at *
  have hR0 := (HR.out.below hB0 hB).more (Nat.le_trans hB (Below.size hB0))
  have ltS := bs.lt
  refine (form_prog jointFs line ws A _ c 6 W0.heap.size W0 (HL.out.below hB0 (Nat.le_refl _)) (by decide) (by decide) hn hn0' HS.out hR0 (row_blk bs bs.lt rfl) (Nat.le_refl _)).mono ?_
  rintro e w1 ⟨k, n, l, cl, nt, A1, A2, q1, q2, m, rfl, HF, HBAD, HOK, hB1⟩
  have lj := bj.lt
  have lf := bf.lt
  replace bj := bj.below hB1 lj
  replace bf := bf.below hB1 lf
  have hBB := hB0.trans (hB1.mono (Below.size hB0))
  have hz1 := Below.size hB1
  have HB := Lib.hid hBB
  have lj1 := bj.lt
  have lf1 := bf.lt
  clear hB0 hR0 bs hB1
  obtain ⟨j0, j1, j2, j3, jf⟩ := blk4 bj
  obtain ⟨f0, f1, f2, ff⟩ := blk3 bf
  by_cases hn0 : n = 0
  · subst hn0
    obtain ⟨hl6, hq⟩ := headP_ok hn0' HF.out
    obtain ⟨rfl, hm, o5, o6⟩ := HOK.out rfl
    rw [show jointFs.length = 6 from rfl] at hm o5 o6
    unfold valsK at o6
    rw [joint_hash] at hm o5 o6
    obtain rfl : m = 2 := hm
    rw [show jointFs.length = 6 from rfl, joint_name]
    have h3l : 3 < ws.length := by omega
    have h5l : 5 < ws.length := by omega
    have h1l : 1 < ws.length := by omega
    have e1 : (ws.getD 1 w0) = ws[1] := getD_of h1l _
    have e3 : (ws.getD 3 w0) = ws[3] := getD_of h3l _
    have e5 : (ws.getD 5 w0) = ws[5] := getD_of h5l _
    have c3 := colW_in h3l
    have c5 := colW_in h5l
    rw [wordT_eq h1l, show numT ws 3 = numW ws[3].1 by unfold numT; rw [wordT_eq h3l], show numT ws 5 = numW ws[5].1 by unfold numT; rw [wordT_eq h5l]] at hq
    rw [e3, e5] at o5 o6
    rw [e1]
    obtain ⟨nm, c1, h1⟩ : ∃ t c, ws[1] = (t, c) := ⟨_, _, rfl⟩
    obtain ⟨t3, x3, h3⟩ : ∃ t c, ws[3] = (t, c) := ⟨_, _, rfl⟩
    obtain ⟨t5, x5, h5⟩ : ∃ t c, ws[5] = (t, c) := ⟨_, _, rfl⟩
    rw [h3, h5] at o5 o6
    rw [h1, h3, h5] at hq
    rw [h3] at c3
    rw [h5] at c5
    rw [h1]
    simp only [List.map_cons, List.map_nil] at o6 hq c3 c5 ⊢
    have HQ := Lib.hid hq
    have C3 := Lib.hid c3; have C5 := Lib.hid c5
    clear hq c3 c5 h1 h3 h5 e1 e3 e5 h1l h3l h5l HF HBAD HOK hl6
    generalize numW t3 = n3 at *
    generalize numW t5 = n5 at *
    obtain ⟨g5, y5, e5, hg5, hl5⟩ := o5.form (by omega)
    obtain ⟨rfl, rfl⟩ : A1 = some ⟨g5, 0, none⟩ ∧ q1 = y5 := by injection e5 with a b c; exact ⟨a, c⟩
    obtain ⟨g6, y6, e6, hg6, hl6⟩ := o6.form (by omega)
    obtain ⟨rfl, rfl⟩ : A2 = some ⟨g6, 0, none⟩ ∧ q2 = y6 := by injection e6 with a b c; exact ⟨a, c⟩
    clear e5 e6
    have bn := (Blk.new w1 157 #[.string nm, .int .i64 line, .int .i64 c1]).alloc (.cells #[.int .i64 l, .int .i64 cl, .int .i64 0] 109)
    have bt := Blk.new' (w1.alloc (.cells #[.string nm, .int .i64 line, .int .i64 c1] 157)) 109 #[.int .i64 l, .int .i64 cl, .int .i64 0] (g := w1.heap.size + 1) (by simp)
    replace bj := (bj.alloc (.cells #[.string nm, .int .i64 line, .int .i64 c1] 157)).alloc (.cells #[.int .i64 l, .int .i64 cl, .int .i64 0] 109)
    replace bf := (bf.alloc (.cells #[.string nm, .int .i64 line, .int .i64 c1] 157)).alloc (.cells #[.int .i64 l, .int .i64 cl, .int .i64 0] 109)
    replace o5 := (o5.alloc (.cells #[.string nm, .int .i64 line, .int .i64 c1] 157)).alloc (.cells #[.int .i64 l, .int .i64 cl, .int .i64 0] 109)
    replace o6 := (o6.alloc (.cells #[.string nm, .int .i64 line, .int .i64 c1] 157)).alloc (.cells #[.int .i64 l, .int .i64 cl, .int .i64 0] 109)
    have HB2 := Lib.hid ((HB.out.alloc HB.out.size (.cells #[.string nm, .int .i64 line, .int .i64 c1] 157)).alloc (Nat.le_trans HB.out.size (by simp)) (.cells #[.int .i64 l, .int .i64 cl, .int .i64 0] 109))
    have hzz : ((w1.alloc (.cells #[.string nm, .int .i64 line, .int .i64 c1] 157)).alloc (.cells #[.int .i64 l, .int .i64 cl, .int .i64 0] 109)).heap.size = w1.heap.size + 1 + 1 := by simp
    go_wp2_with fail
    clear j0 j1 j2 j3 jf f0 f1 f2 ff lj1 lf1
    generalize (w1.alloc (.cells #[.string nm, .int .i64 line, .int .i64 c1] 157)).alloc (.cells #[.int .i64 l, .int .i64 cl, .int .i64 0] 109) = W2 at *
    have p0 := o5.cellAt 0 (by omega)
    have p1 := o5.cellAt 1 (by omega)
    have p2 := o5.cellAt 2 (by omega)
    have p3 := o5.cellAt 3 (by omega)
    have p4 := o5.cellAt 4 (by omega)
    have p5 := o5.cellAt 5 (by omega)
    have r0 := o6.cellAt 0 (by omega)
    have r1 := o6.cellAt 1 (by omega)
    replace p0 : W2.cell? ⟨g5, 0, none⟩ = some (.string t3) := p0
    replace p1 : W2.cell? ⟨g5, 1, none⟩ = some (.int .i64 line) := p1
    replace p2 : W2.cell? ⟨g5, 2, none⟩ = some (.int .i64 x3) := p2
    replace p3 : W2.cell? ⟨g5, 3, none⟩ = some (.string t5) := p3
    replace p4 : W2.cell? ⟨g5, 4, none⟩ = some (.int .i64 line) := p4
    replace p5 : W2.cell? ⟨g5, 5, none⟩ = some (.int .i64 x5) := p5
    replace r0 : W2.cell? ⟨g6, 0, none⟩ = some (.int .i64 n3) := r0
    replace r1 : W2.cell? ⟨g6, 1, none⟩ = some (.int .i64 n5) := r1
    have l5 : g5 < W2.heap.size := by omega
    have l6 : g6 < W2.heap.size := by omega
    obtain ⟨j0, j1, j2, j3, jf⟩ := blk4 bj
    obtain ⟨f0, f1, f2, ff⟩ := blk3 bf
    obtain ⟨m0, m1, m2, mf⟩ := blk3 bn
    have lj1 := bj.lt
    have lf1 := bf.lt
    have ln1 := bn.lt
    have d1 : ¬ g5 = w.heap.size := by omega
    have d2 : ¬ g5 = w.heap.size + 1 := by omega
    have d3 : ¬ g6 = w.heap.size := by omega
    have d4 : ¬ g6 = w.heap.size + 1 := by omega
    have d5 : ¬ w1.heap.size = w.heap.size := by omega
    have d6 : ¬ w1.heap.size = w.heap.size + 1 := by omega
    have BJ := Lib.hid bj; have BF := Lib.hid bf
    clear bn bt o5 o6 hzz hg5 hg6 hl5 hl6 bj bf
    go_loopw [24] (fun s24 wr => ∃ i : Int, s24 = .int .i64 i ∧ (i = 0 ∨ i = 1 ∨ i = 2) ∧ Hid (1 ≤ i → wi n3 1 20000 = true) ∧ Hid (2 ≤ i → wi n5 0 20000 = true) ∧ W2 = wr) (fun i _ => 2 - (RowKit.intOf i).toNat)
    case atStart => exact ⟨0, rfl, .inl rfl, Lib.hid (fun h => absurd h (by omega)), Lib.hid (fun h => absurd h (by omega)), rfl⟩
    case round =>
      obtain ⟨i, rfl, hi, H3, H5, rfl⟩ := hrel
      have i0 : ∀ W, (Instr.index 160 (.agg #[.int .i64 1, .int .i64 0]) (.int .i64 0)).run Tryz.prog W = .ok (.int .i64 1) W := fun _ => by kernel_rfl
      have i1 : ∀ W, (Instr.index 160 (.agg #[.int .i64 1, .int .i64 0]) (.int .i64 1)).run Tryz.prog W = .ok (.int .i64 0) W := fun _ => by kernel_rfl
      rcases hi with rfl | rfl | rfl
      · cases q : wi n3 1 20000 with
        | false =>
          have HE : Hid (headP ws = (hd0, 3, 2)) := Lib.hid (by rw [HQ.out, if_pos q])
          go_wp2_with (go_at_call 58; refine (within_any _ _ _ _).mono ?_; rintro e w1 ⟨rfl, rfl⟩)
          have bj := BJ.out; have bf := BF.out
          go_region
          clear f0 f1 f2
          go_wp2
          have z1 := ((Blk.set4 bj (.string ⟨#[]⟩) (.int .i64 0) (.int .i64 0) (.slice none 0 0)).far3 (p := w.heap.size + 1) (by omega) (.int .i64 line) (.int .i64 x3) (.int .i64 2)).drew
          have z2 := (Blk.set3 (bf.far4 (p := w.heap.size) (by omega) (.string ⟨#[]⟩) (.int .i64 0) (.int .i64 0) (.slice none 0 0)) (.int .i64 line) (.int .i64 x3) (.int .i64 2)).drew
          have zB := (Below.set3 (g := w.heap.size + 1) (u0 := .int .i64 line) (u1 := .int .i64 x3) (u2 := .int .i64 2) (Below.set4 (g := w.heap.size) (u0 := .string ⟨#[]⟩) (u1 := .int .i64 0) (u2 := .int .i64 0) (u3 := .slice none 0 0) HB2.out (Nat.le_refl _)) (Nat.le_succ _)).drew
          have HQ2 : Hid ((headP ws).2.2 ≠ 0 → line = line ∧ x3 = colW ws (headP ws).2.1) := Lib.hid (fun _ => ⟨rfl, by rw [HE.out]; exact C3.out.symm⟩)
          have HQ1 : Hid (Ending.returned (.tuple #[jtV hd0, .agg #[.int .i64 line, .int .i64 x3, .int .i64 2]]) = .returned (.tuple #[jtV (headP ws).1, .agg #[.int .i64 line, .int .i64 x3, .int .i64 (headP ws).2.2]])) := Lib.hid (by rw [HE.out])
          obtain ⟨a0, a1, a2, a3, _⟩ := blk4 z1
          obtain ⟨b0, b1, b2, _⟩ := blk3 z2
          refine bodyPost_ret (v := .tuple #[jtV hd0, .agg #[.int .i64 line, .int .i64 x3, .int .i64 2]]) ?_ rfl ⟨line, x3, HQ1.out, HQ2, zB⟩
          simp [results, Tryz.results41, go_sem, jtV, hd0, a0, a1, a2, a3, b0, b1, b2]
        | true =>
          go_wp2_with (go_at_call 58; refine (within_any _ _ _ _).mono ?_; rintro e w1 ⟨rfl, rfl⟩)
          exact ⟨⟨1, by go_num, .inr (.inl rfl), Lib.hid (fun _ => by first | trivial | exact q), Lib.hid (fun h => absurd h (by omega)), by first | trivial | rfl⟩, by simp [RowKit.intOf]⟩
      · cases q : wi n5 0 20000 with
        | false =>
          have HE : Hid (headP ws = (hd0, 5, 2)) := Lib.hid (by rw [HQ.out, if_neg (by rw [H3.out (by omega)]; simp), if_pos q])
          go_wp2_with (go_at_call 58; refine (within_any _ _ _ _).mono ?_; rintro e w1 ⟨rfl, rfl⟩)
          have bj := BJ.out; have bf := BF.out
          go_region
          clear f0 f1 f2
          go_wp2
          have z1 := ((Blk.set4 bj (.string ⟨#[]⟩) (.int .i64 0) (.int .i64 0) (.slice none 0 0)).far3 (p := w.heap.size + 1) (by omega) (.int .i64 line) (.int .i64 x5) (.int .i64 2)).drew
          have z2 := (Blk.set3 (bf.far4 (p := w.heap.size) (by omega) (.string ⟨#[]⟩) (.int .i64 0) (.int .i64 0) (.slice none 0 0)) (.int .i64 line) (.int .i64 x5) (.int .i64 2)).drew
          have zB := (Below.set3 (g := w.heap.size + 1) (u0 := .int .i64 line) (u1 := .int .i64 x5) (u2 := .int .i64 2) (Below.set4 (g := w.heap.size) (u0 := .string ⟨#[]⟩) (u1 := .int .i64 0) (u2 := .int .i64 0) (u3 := .slice none 0 0) HB2.out (Nat.le_refl _)) (Nat.le_succ _)).drew
          have HQ2 : Hid ((headP ws).2.2 ≠ 0 → line = line ∧ x5 = colW ws (headP ws).2.1) := Lib.hid (fun _ => ⟨rfl, by rw [HE.out]; exact C5.out.symm⟩)
          have HQ1 : Hid (Ending.returned (.tuple #[jtV hd0, .agg #[.int .i64 line, .int .i64 x5, .int .i64 2]]) = .returned (.tuple #[jtV (headP ws).1, .agg #[.int .i64 line, .int .i64 x5, .int .i64 (headP ws).2.2]])) := Lib.hid (by rw [HE.out])
          obtain ⟨a0, a1, a2, a3, _⟩ := blk4 z1
          obtain ⟨b0, b1, b2, _⟩ := blk3 z2
          refine bodyPost_ret (v := .tuple #[jtV hd0, .agg #[.int .i64 line, .int .i64 x5, .int .i64 2]]) ?_ rfl ⟨line, x5, HQ1.out, HQ2, zB⟩
          simp [results, Tryz.results41, go_sem, jtV, hd0, a0, a1, a2, a3, b0, b1, b2]
        | true =>
          go_wp2_with (go_at_call 58; refine (within_any _ _ _ _).mono ?_; rintro e w1 ⟨rfl, rfl⟩)
          exact ⟨⟨2, by go_num, .inr (.inr rfl), Lib.hid (fun _ => H3.out (by omega)), Lib.hid (fun _ => by first | trivial | exact q), by first | trivial | rfl⟩, by simp [RowKit.intOf]⟩
      · have HE : Hid (headP ws = ((nm, n3, n5), 0, 0)) := Lib.hid (by rw [HQ.out, if_neg (by rw [H3.out (by omega)]; simp), if_neg (by rw [H5.out (by omega)]; simp)])
        go_wp2_with fail
        have bj := BJ.out; have bf := BF.out
        go_region
        clear f0 f1 f2
        go_wp2
        have z1 := ((Blk.set4 bj (.string nm) (.int .i64 n3) (.int .i64 n5) (.slice none 0 0)).far3 (p := w.heap.size + 1) (by omega) (.int .i64 0) (.int .i64 0) (.int .i64 0)).drew
        have z2 := (Blk.set3 (bf.far4 (p := w.heap.size) (by omega) (.string nm) (.int .i64 n3) (.int .i64 n5) (.slice none 0 0)) (.int .i64 0) (.int .i64 0) (.int .i64 0)).drew
        have zB := (Below.set3 (g := w.heap.size + 1) (u0 := .int .i64 0) (u1 := .int .i64 0) (u2 := .int .i64 0) (Below.set4 (g := w.heap.size) (u0 := .string nm) (u1 := .int .i64 n3) (u2 := .int .i64 n5) (u3 := .slice none 0 0) HB2.out (Nat.le_refl _)) (Nat.le_succ _)).drew
        have HQ2 : Hid ((headP ws).2.2 ≠ 0 → (0 : Int) = line ∧ (0 : Int) = colW ws (headP ws).2.1) := Lib.hid (fun h => absurd (by rw [HE.out]) h)
        have HQ1 : Hid (Ending.returned (.tuple #[jtV (nm, n3, n5), .agg #[.int .i64 0, .int .i64 0, .int .i64 0]]) = .returned (.tuple #[jtV (headP ws).1, .agg #[.int .i64 0, .int .i64 0, .int .i64 (headP ws).2.2]])) := Lib.hid (by rw [HE.out])
        obtain ⟨a0, a1, a2, a3, _⟩ := blk4 z1
        obtain ⟨b0, b1, b2, _⟩ := blk3 z2
        refine bodyPost_ret (v := .tuple #[jtV (nm, n3, n5), .agg #[.int .i64 0, .int .i64 0, .int .i64 0]]) ?_ rfl ⟨0, 0, HQ1.out, HQ2, zB⟩
        simp [results, Tryz.results41, go_sem, jtV, a0, a1, a2, a3, b0, b1, b2]
  · have HQ : Hid (headP ws = (hd0, k, n)) := Lib.hid (headP_form hn0' HF.out hn0)
    have g1 : (n != 0) = true := by rw [bne, beq_eq_false_iff_ne.2 hn0]; rfl
    obtain ⟨rfl, rfl⟩ := HBAD.out hn0
    clear HF HOK hn0
    go_wp2_with fail
    go_region
    go_wp2
    have z1 := ((((Blk.set4 bj (.string ⟨#[]⟩) (.int .i64 0) (.int .i64 0) (.slice none 0 0)).far3 (p := w.heap.size + 1) (by omega) (.int .i64 l) (.int .i64 (colW ws k)) (.int .i64 n)).alloc (.cells #[.string nt.1, .int .i64 nt.2.1, .int .i64 nt.2.2] 157)).alloc (.cells #[.int .i64 l, .int .i64 (colW ws k), .int .i64 n] 109)).drew
    have z2 := (((Blk.set3 (bf.far4 (p := w.heap.size) (by omega) (.string ⟨#[]⟩) (.int .i64 0) (.int .i64 0) (.slice none 0 0)) (.int .i64 l) (.int .i64 (colW ws k)) (.int .i64 n)).alloc (.cells #[.string nt.1, .int .i64 nt.2.1, .int .i64 nt.2.2] 157)).alloc (.cells #[.int .i64 l, .int .i64 (colW ws k), .int .i64 n] 109)).drew
    have hzB := (Below.set3 (g := w.heap.size + 1) (u0 := .int .i64 l) (u1 := .int .i64 (colW ws k)) (u2 := .int .i64 n) (Below.set4 (g := w.heap.size) (u0 := .string ⟨#[]⟩) (u1 := .int .i64 0) (u2 := .int .i64 0) (u3 := .slice none 0 0) HB.out (Nat.le_refl _)) (Nat.le_succ _))
    have zB := ((hzB.alloc hzB.size (.cells #[.string nt.1, .int .i64 nt.2.1, .int .i64 nt.2.2] 157)).alloc (Nat.le_trans hzB.size (by simp)) (.cells #[.int .i64 l, .int .i64 (colW ws k), .int .i64 n] 109)).drew
    have HQ2 : Hid ((headP ws).2.2 ≠ 0 → l = l ∧ colW ws k = colW ws (headP ws).2.1) := Lib.hid (fun _ => ⟨rfl, by rw [HQ.out]⟩)
    have HQ1 : Hid (Ending.returned (.tuple #[jtV hd0, .agg #[.int .i64 l, .int .i64 (colW ws k), .int .i64 n]]) = .returned (.tuple #[jtV (headP ws).1, .agg #[.int .i64 l, .int .i64 (colW ws k), .int .i64 (headP ws).2.2]])) := Lib.hid (by rw [HQ.out])
    obtain ⟨a0, a1, a2, a3, _⟩ := blk4 z1
    obtain ⟨b0, b1, b2, _⟩ := blk3 z2
    refine bodyPost_ret (v := .tuple #[jtV hd0, .agg #[.int .i64 l, .int .i64 (colW ws k), .int .i64 n]]) ?_ rfl ⟨l, colW ws k, HQ1.out, HQ2, zB⟩
    simp [results, Tryz.results41, go_sem, jtV, hd0, a0, a1, a2, a3, b0, b1, b2]
end Go.Proofs.YtaekcfancfoccaaGreatDoor
