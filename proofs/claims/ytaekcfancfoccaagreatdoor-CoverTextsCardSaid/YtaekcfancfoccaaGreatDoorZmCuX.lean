/- Contract: a number as text (base.Decimal), for all numbers. The reference's Print. -/
import Derived.Laws.BytesString
import Derived.Laws.Cells
import Derived.Test.YtaekcfancfoccaaGreatDoorZmZkCvM
import Derived.Test.YtaekcfancfoccaaGreatDoorZmTxA
import Derived.Test.YtaekcfancfoccaaGreatDoorZmCuU
import Derived.Test.YtaekcfancfoccaaGreatDoorZmCuT
namespace Go.Proofs.YtaekcfancfoccaaGreatDoor
open Go.RowKit Go.Lib

theorem conv_byte (w : World) (g : Nat) (b : Int) (hc : w.cell? ⟨g, 0, none⟩ = some (.int .u8 b)) : (convert 86 9 (.slice (some ⟨g, 0, none⟩) 1 1)).run Tryz.prog w = .ok (.string ⟨#[UInt8.ofNat b.toNat]⟩) w := by
  rw [run_convert_bytes_string w _ _ 5 _ _ _ Tryz.underlying86 Tryz.underlying5 Tryz.underlying9]
  rw [run_bytesToString w _ 1 1 [b] (by
    have := run_loadCells_list (P := Tryz.prog) (w := w) (⟨g, 0, none⟩ : Addr) [.int .u8 b] (fun j v hj => by
      match j, hj with
      | 0, hj => simp at hj; subst hj; exact hc
      | j + 1, hj => simp at hj)
    simpa using this)]
  rfl
set_option maxRecDepth 100000 in
set_option maxHeartbeats 8000000 in
theorem decimal_all (n : Int) (h0 : -9223372036854775808 ≤ n) (h1 : n ≤ 9223372036854775807) (w : World) : Calls Tryz.prog 43 #[.int .i64 n] w fun e w' => e = .returned (.string (strB (itoa n))) ∧ Below w.heap.size w w' := by
  by_cases hz : n = 0
  · subst hz
    have HE : Hid (itoa 0 = [48]) := Lib.hid (by unfold itoa; rw [if_neg (by omega), decDigits, dif_pos (by decide)]; rfl)
    go_enter Tryz.func43, Tryz.ntmps43
    rw [HE.out]
    go_wp2
    go_ret
    exact ⟨rfl, Below.refl _ _⟩
  have HS := Lib.hid (DecS.start n hz)
  have HZ : Hid (∀ m t, DecS n m t → t.length ≤ 19) := Lib.hid fun m t h => h.size h0 h1
  obtain ⟨sg, hsg, hsz⟩ : ∃ sg : ByteArray, (∀ t : List UInt8, t = decDigits n.natAbs → sg ++ strB t = strB (itoa n)) ∧ sg = (if n < 0 then ⟨#[45]⟩ else ⟨#[]⟩) := by
    by_cases hn : n < 0
    · refine ⟨⟨#[45]⟩, fun t ht => ?_, by rw [if_pos hn]⟩
      rw [show (⟨#[45]⟩ : ByteArray) = strB [45] from rfl, strB_append, ht]; unfold itoa; rw [if_pos hn]; rfl
    · refine ⟨⟨#[]⟩, fun t ht => ?_, by rw [if_neg hn]⟩
      rw [show (⟨#[]⟩ : ByteArray) = strB [] from rfl, strB_append, ht]; unfold itoa; rw [if_neg hn, show n.toNat = n.natAbs by omega]; rfl
  have HG := Lib.hid hsg; clear hsg
  have hz0 : (n == 0) = false := by simp [hz]
  go_enter Tryz.func43, Tryz.ntmps43
  by_cases hn : n < 0
  all_goals
    (first | rw [if_pos hn] at hsz | rw [if_neg hn] at hsz)
    subst hsz
    go_wp2
    go_loopw [0, 3] (fun s0 s3 wr => ∃ (m : Int) (t : List UInt8), s0 = .int .i64 m ∧ s3 = .string (strB t) ∧ Hid (DecS n m t) ∧ Below w.heap.size w wr) (fun s0 _ _ => (intOf s0).natAbs)
    case atStart => exact ⟨n, [], rfl, rfl, HS, Below.refl _ _⟩
    case round =>
      obtain ⟨m, t, rfl, rfl, HD, hBB⟩ := hrel
      have hzw := Below.size hBB
      by_cases hm : m = 0
      · subst hm
        have hl := HZ.out _ _ HD.out
        have hsl := strB_size t
        have hd := HD.out.done
        have HE := Lib.hid (HG.out t hd); clear hd
        go_wp2
        rw [HE.out]
        go_ret
        exact ⟨rfl, hBB⟩
      · have hmb : -9223372036854775808 ≤ m ∧ m ≤ 9223372036854775807 := by have := HD.out.1; have := HD.out.2.1; omega
        have hne : (m != 0) = true := by simp [hm]
        have hl := HZ.out _ _ HD.out
        have HN := Lib.hid (HD.out.next hm)
        have HL : Hid ((m.tdiv 10).natAbs < m.natAbs) := Lib.hid (by rw [Int.natAbs_tdiv]; show m.natAbs / 10 < m.natAbs; omega)
        have hq : (m.tmod 10).natAbs = m.natAbs % 10 := by rw [Int.natAbs_tmod]; rfl
        obtain ⟨q, hqm⟩ : ∃ q, m.tmod 10 = q := ⟨_, rfl⟩
        rw [hqm] at hq
        have hmx : max q (-q) = ((m.natAbs % 10 : Nat) : Int) := by omega
        obtain ⟨r, hr, hr10⟩ : ∃ r : Nat, m.natAbs % 10 = r ∧ r < 10 := ⟨_, rfl, by omega⟩
        rw [hr] at hmx
        obtain ⟨m2, hm2⟩ : ∃ m2, m.tdiv 10 = m2 := ⟨_, rfl⟩
        rw [hm2] at HL HN
        have hmb2 : -9223372036854775808 ≤ m2 ∧ m2 ≤ 9223372036854775807 := by have := HL.out; omega
        rw [hr] at HN
        have HR := Lib.hid hr; clear hr
        have hqb : -9 ≤ q ∧ q ≤ 9 := by omega
        have hsl := strB_size t
        have hcv := conv_byte (wr.alloc (.cells #[.int .u8 (48 + (r : Int))] 5)) wr.heap.size (48 + (r : Int)) (cell_one_new _ _ _ 0 _ rfl)
        have below_ : Below w.heap.size w (wr.alloc (.cells #[.int .u8 (48 + (r : Int))] 5)) := (by repeat first | (with_reducible first | exact Below.refl _ _ | assumption) | ((with_reducible first | refine Below.setCell ?_ ?_ _ | refine Below.alloc ?_ ?_ _); rotate_left; · first | exact Nat.le_refl _ | (simp; done) | (simp; omega) | omega) | (with_reducible first | apply Below.drew | apply below_drewN') | refine Below.trans ?_ (Below.mono (by assumption) (by first | exact Nat.le_refl _ | (simp; done) | (simp; omega) | omega)) | exact Below.refl _ _ | assumption)
        clear hq
        go_wp2_with fail
        refine (size_any _ (by omega) _).mono ?_
        rintro e w2 ⟨rfl, rfl⟩
        rw [hmx]
        go_wp2
        refine ⟨⟨m2, _, by first | rfl | rw [show wrap64 m2 = m2 from by unfold wrap64; omega], ?_, HN, below_⟩, ?_⟩
        · rw [show (⟨#[48 + UInt8.ofNat r]⟩ : ByteArray) = strB [UInt8.ofNat (48 + r)] from by rw [UInt8.ofNat_add]; rfl, strB_append]; rfl
        · have := HL.out
          simp only [intOf]
          first | exact this | (rw [show wrap64 m2 = m2 from by unfold wrap64; omega]; exact this)
end Go.Proofs.YtaekcfancfoccaaGreatDoor

namespace Go.Proofs.YtaekcfancfoccaaGreatDoor
open Go.RowKit Go.Lib

def printK (j : Jo) (k : Nat) : List UInt8 := join (headT j) [32] ++ [10] ++ ((j.fs.take k).map faceLn).flatten
theorem printK_done (j : Jo) : printK j j.fs.length = printL j := by unfold printK printL; rw [List.take_length]
theorem printK_succ (j : Jo) {k : Nat} (h : k < j.fs.length) : printK j (k + 1) = printK j k ++ faceLn j.fs[k] := by
  unfold printK
  rw [List.take_add_one, List.getElem?_eq_getElem h, List.map_append, List.flatten_append]
  simp
theorem head_text (j : Jo) : (⟨#[106, 111, 105, 110, 116, 32]⟩ ++ j.nm ++ ⟨#[32, 116, 104, 105, 99, 107, 32]⟩ ++ strB (itoa j.thick) ++ ⟨#[32, 122, 111, 110, 101, 32]⟩ ++ strB (itoa j.zone) ++ ⟨#[10]⟩ : ByteArray) = strB (printK j 0) := by
  apply ByteArray.ext
  simp [printK, headT, join, List.intercalate, List.intersperse, strB, ByteArray.data_append]
theorem face_text (p : ByteArray × Fc) (S : List UInt8) : (strB S ++ ⟨#[102, 97, 99, 101, 32]⟩ ++ p.1 ++ ⟨#[32]⟩ ++ strB (itoa p.2.fx) ++ ⟨#[32]⟩ ++ strB (itoa p.2.fz) ++ ⟨#[32]⟩ ++ strB (itoa p.2.tx) ++ ⟨#[32]⟩ ++ strB (itoa p.2.tz) ++ ⟨#[10]⟩ : ByteArray) = strB (S ++ faceLn p) := by
  apply ByteArray.ext
  simp [faceLn, faceT, join, List.intercalate, List.intersperse, strB, ByteArray.data_append]
structure PrOk (j : Jo) : Prop where
  nm : j.nm.size ≤ 12
  thick : -1000000 ≤ j.thick ∧ j.thick ≤ 1000000
  zone : -1000000 ≤ j.zone ∧ j.zone ≤ 1000000
  len : j.fs.length ≤ 12
  fs : ∀ p ∈ j.fs, p.1.size ≤ 12 ∧ (-1000000 ≤ p.2.fx ∧ p.2.fx ≤ 1000000) ∧ (-1000000 ≤ p.2.fz ∧ p.2.fz ≤ 1000000) ∧ (-1000000 ≤ p.2.tx ∧ p.2.tx ≤ 1000000) ∧ (-1000000 ≤ p.2.tz ∧ p.2.tz ≤ 1000000)
theorem nameB_size {s : ByteArray} (h : nameB s = true) : s.size ≤ 12 := by
  unfold nameB at h
  simp only [Bool.and_eq_true, decide_eq_true_eq] at h
  exact h.2
theorem facesE_pr {thick : Int} (ht : thick ≤ 20000) : ∀ (l : List (ByteArray × Fc)) (i : Nat) (before : List (ByteArray × Fc)), (facesE thick i before l).2 = 0 → ∀ p ∈ l, p.1.size ≤ 12 ∧ (-1000000 ≤ p.2.fx ∧ p.2.fx ≤ 1000000) ∧ (-1000000 ≤ p.2.fz ∧ p.2.fz ≤ 1000000) ∧ (-1000000 ≤ p.2.tx ∧ p.2.tx ≤ 1000000) ∧ (-1000000 ≤ p.2.tz ∧ p.2.tz ≤ 1000000)
  | [], _, _, _, p, hp => by cases hp
  | q :: l, i, before, h, p, hp => by
    unfold facesE at h
    split at h
    · rename_i he
      rcases List.mem_cons.1 hp with rfl | hp
      · unfold faceE at he
        split at he
        · cases he
        rename_i hn
        split at he
        · cases he
        split at he
        · cases he
        rename_i hr
        have hn' : nameB p.1 = true := by simpa using hn
        simp only [Bool.or_eq_true, Bool.not_eq_true', not_or, Bool.not_eq_false] at hr
        obtain ⟨⟨⟨r1, r2⟩, r3⟩, r4⟩ := hr
        have b1 := wi_iff.1 r1
        have b2 := wi_iff.1 r2
        have b3 := wi_iff.1 r3
        have b4 := wi_iff.1 r4
        exact ⟨nameB_size hn', by omega, by omega, by omega, by omega⟩
      · exact facesE_pr ht l _ _ h p hp
    · rename_i he; exact absurd h he
theorem PrOk.of {j : Jo} (h : (jointE j).2 = 0) : PrOk j := by
  unfold jointE at h
  split at h
  · cases h
  rename_i hn
  split at h
  · cases h
  rename_i hr
  split at h
  · cases h
  rename_i hl
  have hn' : nameB j.nm = true := by simpa using hn
  simp only [Bool.or_eq_true, Bool.not_eq_true', not_or, Bool.not_eq_false] at hr
  have b1 := wi_iff.1 hr.1
  have b2 := wi_iff.1 hr.2
  exact ⟨nameB_size hn', by omega, by omega, by omega, facesE_pr b1.2 _ _ _ h⟩
theorem join_len2 : ∀ (ws : List (List UInt8)), (join ws [32]).length ≤ (ws.map (·.length + 1)).sum
  | [] => by simp [join_nil]
  | [x] => by rw [join_one]; simp
  | x :: y :: r => by
    have ih := join_len2 (y :: r)
    rw [join_two]
    simp only [List.length_append, List.map_cons, List.sum_cons, List.length_cons, List.length_nil] at ih ⊢
    omega
theorem arr_len (s : ByteArray) : s.data.toList.length = s.size := by rw [Array.length_toList]; rfl
theorem faceLn_len {p : ByteArray × Fc} (h : p.1.size ≤ 12 ∧ (-1000000 ≤ p.2.fx ∧ p.2.fx ≤ 1000000) ∧ (-1000000 ≤ p.2.fz ∧ p.2.fz ≤ 1000000) ∧ (-1000000 ≤ p.2.tx ∧ p.2.tx ≤ 1000000) ∧ (-1000000 ≤ p.2.tz ∧ p.2.tz ≤ 1000000)) : (faceLn p).length ≤ 200 := by
  have h1 := join_len2 (faceT p)
  have a1 := itoa_le h.2.1
  have a2 := itoa_le h.2.2.1
  have a3 := itoa_le h.2.2.2.1
  have a4 := itoa_le h.2.2.2.2
  have a5 := arr_len p.1
  have a6 := h.1
  unfold faceLn
  simp only [faceT, List.map_cons, List.map_nil, List.sum_cons, List.sum_nil, List.length_cons, List.length_nil, List.length_append] at h1 ⊢
  omega
theorem printK_len {j : Jo} (h : PrOk j) : ∀ k, k ≤ j.fs.length → (printK j k).length ≤ 200 + 200 * k
  | 0, _ => by
    have h1 := join_len2 (headT j)
    have a1 := itoa_le h.thick
    have a2 := itoa_le h.zone
    have a5 := arr_len j.nm
    have a6 := h.nm
    unfold printK
    simp only [headT, List.map_cons, List.map_nil, List.sum_cons, List.sum_nil, List.length_cons, List.length_nil, List.length_append, List.take_zero, List.flatten_nil] at h1 ⊢
    omega
  | k + 1, hk => by
    have ih := printK_len h k (by omega)
    have h1 := faceLn_len (h.fs _ (List.getElem_mem (show k < j.fs.length by omega)))
    rw [printK_succ j (by omega), List.length_append]
    omega
theorem printL_len {j : Jo} (h : PrOk j) : (printL j).length ≤ 2600 := by
  have h1 := printK_len h j.fs.length (Nat.le_refl _)
  rw [printK_done] at h1
  have := h.len
  omega

set_option maxRecDepth 100000 in
set_option maxHeartbeats 4000000 in
theorem rpReg1 {W : World} {jb c : Nat} {j : Jo} {A : Option Addr} (hj : PrOk j) (bj : Blk W jb 24 #[.string j.nm, .int .i64 j.thick, .int .i64 j.zone, .slice A j.fs.length c]) {t0 t2 t3 t4 t5 t6 t7 t8 t9 t10 t11 t12 t13 t14 t15 t16 t17 t18 t19 t20 t21 t22 t23 t24 t25 t26 t27 t28 t29 t30 t31 t32 t33 t34 t35 t36 t37 t38 t39 t40 t41 t42 t43 t44 t45 t46 t47 t48 t49 t50 t51 t52 t53 t54 t55 t56 t57 t58 t59 t60 t61 t62 : Value} {ds : List Deferred} (Q : Exit → Act → World → Prop)
    (h : ∀ (t6 t7 t8 t9 t10 t11 t12 t13 t14 t15 t16 t17 t18 t19 : Value) (w' : World), Below W.heap.size W w' → Q .normal ⟨#[t0, .pointer (some ⟨jb, 0, none⟩), t2, .string (strB (printK j 0)), t4, t5, t6, t7, t8, t9, t10, t11, t12, t13, t14, t15, t16, t17, t18, t19, t20, t21, t22, t23, t24, t25, t26, t27, t28, t29, t30, t31, t32, t33, t34, t35, t36, t37, t38, t39, t40, t41, t42, t43, t44, t45, t46, t47, t48, t49, t50, t51, t52, t53, t54, t55, t56, t57, t58, t59, t60, t61, t62], ds⟩ w') :
    (regOf Tryz.f11 1).wp Tryz.prog Q ⟨#[t0, .pointer (some ⟨jb, 0, none⟩), t2, t3, t4, t5, t6, t7, t8, t9, t10, t11, t12, t13, t14, t15, t16, t17, t18, t19, t20, t21, t22, t23, t24, t25, t26, t27, t28, t29, t30, t31, t32, t33, t34, t35, t36, t37, t38, t39, t40, t41, t42, t43, t44, t45, t46, t47, t48, t49, t50, t51, t52, t53, t54, t55, t56, t57, t58, t59, t60, t61, t62], ds⟩ W := by
  have H := Lib.hid h; clear h
  have h12 := hj.nm
  have ht := hj.thick
  have hz := hj.zone
  have s1 : (strB (itoa j.thick)).size ≤ 20 := by rw [strB_size]; exact itoa_le hj.thick
  have s2 : (strB (itoa j.zone)).size ≤ 20 := by rw [strB_size]; exact itoa_le hj.zone
  have HT := Lib.hid (head_text j)
  obtain ⟨j0, j1, j2, j3, jf⟩ := blk4 bj
  have lj := bj.lt
  rw [← HT.out] at H
  generalize j.nm = nm at *
  generalize j.thick = th at *
  generalize j.zone = zo at *
  conv in (regOf _ _) => whnf
  refine wp_region_w (Gr _) (by kernel_rfl) (Below.refl _ _).drew ?_
  refine wpW_det (t' := ?ct0R1) 0 (by rfl) (by kernel_rfl) (NQ_free _) (by kernel_rfl) ?cw0R1 ?ch0R1 ?ca0R1 (Eq.refl _) ?cH0R1
  case cw0R1 => (go_simp; done)
  case ch0R1 =>
    intro ds w' hS K hK
    have hc := (bcell hS).1; have hf := (bcell hS).2; have hz := hS.size; (try simp at hz); go_simp; (try go_bits)
    first
      | exact hK _ hS (Gr.refl _)
      | (rw [if_neg (by omega)]; go_simp; exact hK _ hS (Gr.refl _))
      | (go_at_call 43; refine (decimal_all _ (by omega) (by omega) _).mono ?_; rintro e wq ⟨rfl, hBq⟩; exact hK _ (Below.trans hS (Below.mono hBq (Below.size hS))) hBq)
  case ca0R1 => (first | (simp [Act.put]; done) | (simp [Act.put, *]; done))
  try dsimp only
  refine wpW_det (t' := ?ct1R1) 1 (by rfl) (by kernel_rfl) (NQ_free _) (by kernel_rfl) ?cw1R1 ?ch1R1 ?ca1R1 (Eq.refl _) ?cH1R1
  case cw1R1 => (go_simp; done)
  case ch1R1 =>
    intro ds w' hS K hK
    have hc := (bcell hS).1; have hf := (bcell hS).2; have hz := hS.size; (try simp at hz); go_simp; (try go_bits)
    first
      | exact hK _ hS (Gr.refl _)
      | (rw [if_neg (by omega)]; go_simp; exact hK _ hS (Gr.refl _))
      | (go_at_call 43; refine (decimal_all _ (by omega) (by omega) _).mono ?_; rintro e wq ⟨rfl, hBq⟩; exact hK _ (Below.trans hS (Below.mono hBq (Below.size hS))) hBq)
  case ca1R1 => (first | (simp [Act.put]; done) | (simp [Act.put, *]; done))
  try dsimp only
  refine wpW_det (t' := ?ct2R1) 2 (by rfl) (by kernel_rfl) (NQ_free _) (by kernel_rfl) ?cw2R1 ?ch2R1 ?ca2R1 (Eq.refl _) ?cH2R1
  case cw2R1 => (go_simp; done)
  case ch2R1 =>
    intro ds w' hS K hK
    have hc := (bcell hS).1; have hf := (bcell hS).2; have hz := hS.size; (try simp at hz); go_simp; (try go_bits)
    first
      | exact hK _ hS (Gr.refl _)
      | (rw [if_neg (by omega)]; go_simp; exact hK _ hS (Gr.refl _))
      | (go_at_call 43; refine (decimal_all _ (by omega) (by omega) _).mono ?_; rintro e wq ⟨rfl, hBq⟩; exact hK _ (Below.trans hS (Below.mono hBq (Below.size hS))) hBq)
  case ca2R1 => (first | (simp [Act.put]; done) | (simp [Act.put, *]; done))
  try dsimp only
  refine wpW_det (t' := ?ct3R1) 3 (by rfl) (by kernel_rfl) (NQ_free _) (by kernel_rfl) ?cw3R1 ?ch3R1 ?ca3R1 (Eq.refl _) ?cH3R1
  case cw3R1 => (go_simp; done)
  case ch3R1 =>
    intro ds w' hS K hK
    have hc := (bcell hS).1; have hf := (bcell hS).2; have hz := hS.size; (try simp at hz); go_simp; (try go_bits)
    first
      | exact hK _ hS (Gr.refl _)
      | (rw [if_neg (by omega)]; go_simp; exact hK _ hS (Gr.refl _))
      | (go_at_call 43; refine (decimal_all _ (by omega) (by omega) _).mono ?_; rintro e wq ⟨rfl, hBq⟩; exact hK _ (Below.trans hS (Below.mono hBq (Below.size hS))) hBq)
  case ca3R1 => (first | (simp [Act.put]; done) | (simp [Act.put, *]; done))
  try dsimp only
  refine wpW_det (t' := ?ct4R1) 4 (by rfl) (by kernel_rfl) (NQ_free _) (by kernel_rfl) ?cw4R1 ?ch4R1 ?ca4R1 (Eq.refl _) ?cH4R1
  case cw4R1 => (go_simp; done)
  case ch4R1 =>
    intro ds w' hS K hK
    have hc := (bcell hS).1; have hf := (bcell hS).2; have hz := hS.size; (try simp at hz); go_simp; (try go_bits)
    first
      | exact hK _ hS (Gr.refl _)
      | (rw [if_neg (by omega)]; go_simp; exact hK _ hS (Gr.refl _))
      | (go_at_call 43; refine (decimal_all _ (by omega) (by omega) _).mono ?_; rintro e wq ⟨rfl, hBq⟩; exact hK _ (Below.trans hS (Below.mono hBq (Below.size hS))) hBq)
  case ca4R1 => (first | (simp [Act.put]; done) | (simp [Act.put, *]; done))
  try dsimp only
  refine wpW_det (t' := ?ct5R1) 5 (by rfl) (by kernel_rfl) (NQ_free _) (by kernel_rfl) ?cw5R1 ?ch5R1 ?ca5R1 (Eq.refl _) ?cH5R1
  case cw5R1 => (go_simp; done)
  case ch5R1 =>
    intro ds w' hS K hK
    have hc := (bcell hS).1; have hf := (bcell hS).2; have hz := hS.size; (try simp at hz); go_simp; (try go_bits)
    first
      | exact hK _ hS (Gr.refl _)
      | (rw [if_neg (by omega)]; go_simp; exact hK _ hS (Gr.refl _))
      | (go_at_call 43; refine (decimal_all _ (by omega) (by omega) _).mono ?_; rintro e wq ⟨rfl, hBq⟩; exact hK _ (Below.trans hS (Below.mono hBq (Below.size hS))) hBq)
  case ca5R1 => (first | (simp [Act.put]; done) | (simp [Act.put, *]; done))
  try dsimp only
  refine wpW_det (t' := ?ct6R1) 6 (by rfl) (by kernel_rfl) (NQ_free _) (by kernel_rfl) ?cw6R1 ?ch6R1 ?ca6R1 (Eq.refl _) ?cH6R1
  case cw6R1 => (go_simp; done)
  case ch6R1 =>
    intro ds w' hS K hK
    have hc := (bcell hS).1; have hf := (bcell hS).2; have hz := hS.size; (try simp at hz); go_simp; (try go_bits)
    first
      | exact hK _ hS (Gr.refl _)
      | (rw [if_neg (by omega)]; go_simp; exact hK _ hS (Gr.refl _))
      | (go_at_call 43; refine (decimal_all _ (by omega) (by omega) _).mono ?_; rintro e wq ⟨rfl, hBq⟩; exact hK _ (Below.trans hS (Below.mono hBq (Below.size hS))) hBq)
  case ca6R1 => (first | (simp [Act.put]; done) | (simp [Act.put, *]; done))
  try dsimp only
  refine wpW_det (t' := ?ct7R1) 7 (by rfl) (by kernel_rfl) (NQ_free _) (by kernel_rfl) ?cw7R1 ?ch7R1 ?ca7R1 (Eq.refl _) ?cH7R1
  case cw7R1 => (go_simp; done)
  case ch7R1 =>
    intro ds w' hS K hK
    have hc := (bcell hS).1; have hf := (bcell hS).2; have hz := hS.size; (try simp at hz); go_simp; (try go_bits)
    first
      | exact hK _ hS (Gr.refl _)
      | (rw [if_neg (by omega)]; go_simp; exact hK _ hS (Gr.refl _))
      | (go_at_call 43; refine (decimal_all _ (by omega) (by omega) _).mono ?_; rintro e wq ⟨rfl, hBq⟩; exact hK _ (Below.trans hS (Below.mono hBq (Below.size hS))) hBq)
  case ca7R1 => (first | (simp [Act.put]; done) | (simp [Act.put, *]; done))
  try dsimp only
  refine wpW_det (t' := ?ct8R1) 8 (by rfl) (by kernel_rfl) (NQ_free _) (by kernel_rfl) ?cw8R1 ?ch8R1 ?ca8R1 (Eq.refl _) ?cH8R1
  case cw8R1 => (go_simp; done)
  case ch8R1 =>
    intro ds w' hS K hK
    have hc := (bcell hS).1; have hf := (bcell hS).2; have hz := hS.size; (try simp at hz); go_simp; (try go_bits)
    first
      | exact hK _ hS (Gr.refl _)
      | (rw [if_neg (by omega)]; go_simp; exact hK _ hS (Gr.refl _))
      | (go_at_call 43; refine (decimal_all _ (by omega) (by omega) _).mono ?_; rintro e wq ⟨rfl, hBq⟩; exact hK _ (Below.trans hS (Below.mono hBq (Below.size hS))) hBq)
  case ca8R1 => (first | (simp [Act.put]; done) | (simp [Act.put, *]; done))
  try dsimp only
  refine wpW_det (t' := ?ct9R1) 9 (by rfl) (by kernel_rfl) (NQ_free _) (by kernel_rfl) ?cw9R1 ?ch9R1 ?ca9R1 (Eq.refl _) ?cH9R1
  case cw9R1 => (go_simp; done)
  case ch9R1 =>
    intro ds w' hS K hK
    have hc := (bcell hS).1; have hf := (bcell hS).2; have hz := hS.size; (try simp at hz); go_simp; (try go_bits)
    first
      | exact hK _ hS (Gr.refl _)
      | (rw [if_neg (by omega)]; go_simp; exact hK _ hS (Gr.refl _))
      | (go_at_call 43; refine (decimal_all _ (by omega) (by omega) _).mono ?_; rintro e wq ⟨rfl, hBq⟩; exact hK _ (Below.trans hS (Below.mono hBq (Below.size hS))) hBq)
  case ca9R1 => (first | (simp [Act.put]; done) | (simp [Act.put, *]; done))
  try dsimp only
  refine wpW_det (t' := ?ct10R1) 10 (by rfl) (by kernel_rfl) (NQ_free _) (by kernel_rfl) ?cw10R1 ?ch10R1 ?ca10R1 (Eq.refl _) ?cH10R1
  case cw10R1 => (go_simp; done)
  case ch10R1 =>
    intro ds w' hS K hK
    have hc := (bcell hS).1; have hf := (bcell hS).2; have hz := hS.size; (try simp at hz); go_simp; (try go_bits)
    first
      | exact hK _ hS (Gr.refl _)
      | (rw [if_neg (by omega)]; go_simp; exact hK _ hS (Gr.refl _))
      | (go_at_call 43; refine (decimal_all _ (by omega) (by omega) _).mono ?_; rintro e wq ⟨rfl, hBq⟩; exact hK _ (Below.trans hS (Below.mono hBq (Below.size hS))) hBq)
  case ca10R1 => (first | (simp [Act.put]; done) | (simp [Act.put, *]; done))
  try dsimp only
  refine wpW_det (t' := ?ct11R1) 11 (by rfl) (by kernel_rfl) (NQ_free _) (by kernel_rfl) ?cw11R1 ?ch11R1 ?ca11R1 (Eq.refl _) ?cH11R1
  case cw11R1 => (go_simp; done)
  case ch11R1 =>
    intro ds w' hS K hK
    have hc := (bcell hS).1; have hf := (bcell hS).2; have hz := hS.size; (try simp at hz); go_simp; (try go_bits)
    first
      | exact hK _ hS (Gr.refl _)
      | (rw [if_neg (by omega)]; go_simp; exact hK _ hS (Gr.refl _))
      | (go_at_call 43; refine (decimal_all _ (by omega) (by omega) _).mono ?_; rintro e wq ⟨rfl, hBq⟩; exact hK _ (Below.trans hS (Below.mono hBq (Below.size hS))) hBq)
  case ca11R1 => (first | (simp [Act.put]; done) | (simp [Act.put, *]; done))
  try dsimp only
  refine wpW_det (t' := ?ct12R1) 12 (by rfl) (by kernel_rfl) (NQ_free _) (by kernel_rfl) ?cw12R1 ?ch12R1 ?ca12R1 (Eq.refl _) ?cH12R1
  case cw12R1 => (go_simp; done)
  case ch12R1 =>
    intro ds w' hS K hK
    have hc := (bcell hS).1; have hf := (bcell hS).2; have hz := hS.size; (try simp at hz); go_simp; (try go_bits)
    first
      | exact hK _ hS (Gr.refl _)
      | (rw [if_neg (by omega)]; go_simp; exact hK _ hS (Gr.refl _))
      | (go_at_call 43; refine (decimal_all _ (by omega) (by omega) _).mono ?_; rintro e wq ⟨rfl, hBq⟩; exact hK _ (Below.trans hS (Below.mono hBq (Below.size hS))) hBq)
  case ca12R1 => (first | (simp [Act.put]; done) | (simp [Act.put, *]; done))
  try dsimp only
  refine wpW_det (t' := ?ct13R1) 13 (by rfl) (by kernel_rfl) (NQ_free _) (by kernel_rfl) ?cw13R1 ?ch13R1 ?ca13R1 (Eq.refl _) ?cH13R1
  case cw13R1 => (go_simp; done)
  case ch13R1 =>
    intro ds w' hS K hK
    have hc := (bcell hS).1; have hf := (bcell hS).2; have hz := hS.size; (try simp at hz); go_simp; (try go_bits)
    first
      | exact hK _ hS (Gr.refl _)
      | (rw [if_neg (by omega)]; go_simp; exact hK _ hS (Gr.refl _))
      | (go_at_call 43; refine (decimal_all _ (by omega) (by omega) _).mono ?_; rintro e wq ⟨rfl, hBq⟩; exact hK _ (Below.trans hS (Below.mono hBq (Below.size hS))) hBq)
  case ca13R1 => (first | (simp [Act.put]; done) | (simp [Act.put, *]; done))
  try dsimp only
  refine wpW_det (t' := ?ct14R1) 14 (by rfl) (by kernel_rfl) (NQ_free _) (by kernel_rfl) ?cw14R1 ?ch14R1 ?ca14R1 (Eq.refl _) ?cH14R1
  case cw14R1 => (go_simp; done)
  case ch14R1 =>
    intro ds w' hS K hK
    have hc := (bcell hS).1; have hf := (bcell hS).2; have hz := hS.size; (try simp at hz); go_simp; (try go_bits)
    first
      | exact hK _ hS (Gr.refl _)
      | (rw [if_neg (by omega)]; go_simp; exact hK _ hS (Gr.refl _))
      | (go_at_call 43; refine (decimal_all _ (by omega) (by omega) _).mono ?_; rintro e wq ⟨rfl, hBq⟩; exact hK _ (Below.trans hS (Below.mono hBq (Below.size hS))) hBq)
  case ca14R1 => (first | (simp [Act.put]; done) | (simp [Act.put, *]; done))
  try dsimp only
  refine wpW_end (by kernel_rfl) ?_
  intro we hg hS
  unfold NQ
  dsimp only
  exact H.out _ _ _ _ _ _ _ _ _ _ _ _ _ _ we hS

set_option maxRecDepth 100000 in
set_option maxHeartbeats 4000000 in
theorem rpReg6 {W : World} {fb : Nat} {S : List UInt8} {p : ByteArray × Fc} (hS0 : S.length ≤ 100000) (hp : p.1.size ≤ 12 ∧ (-1000000 ≤ p.2.fx ∧ p.2.fx ≤ 1000000) ∧ (-1000000 ≤ p.2.fz ∧ p.2.fz ≤ 1000000) ∧ (-1000000 ≤ p.2.tx ∧ p.2.tx ≤ 1000000) ∧ (-1000000 ≤ p.2.tz ∧ p.2.tz ≤ 1000000)) (bf : Blk W fb 83 #[.string p.1, .int .i64 p.2.fx, .int .i64 p.2.fz, .int .i64 p.2.tx, .int .i64 p.2.tz]) {t0 t1 t2 t4 t6 t7 t8 t9 t10 t11 t12 t13 t14 t15 t16 t17 t18 t19 t20 t21 t22 t23 t24 t25 t26 t27 t28 t29 t30 t31 t32 t33 t34 t35 t36 t37 t38 t39 t40 t41 t42 t43 t44 t45 t46 t47 t48 t49 t50 t51 t52 t53 t54 t55 t56 t57 t58 t59 t60 t61 t62 : Value} {ds : List Deferred} (Q : Exit → Act → World → Prop)
    (h : ∀ (t32 t33 t34 t35 t36 t37 t38 t39 t40 t41 t42 t43 t44 t45 t46 t47 t48 t49 t50 t51 t52 t53 t54 t55 t56 t57 t58 t59 t60 t61 : Value) (w' : World), Below W.heap.size W w' → Q .normal ⟨#[t0, t1, t2, .string (strB (S ++ faceLn p)), t4, .pointer (some ⟨fb, 0, none⟩), t6, t7, t8, t9, t10, t11, t12, t13, t14, t15, t16, t17, t18, t19, t20, t21, t22, t23, t24, t25, t26, t27, t28, t29, t30, t31, t32, t33, t34, t35, t36, t37, t38, t39, t40, t41, t42, t43, t44, t45, t46, t47, t48, t49, t50, t51, t52, t53, t54, t55, t56, t57, t58, t59, t60, t61, t62], ds⟩ w') :
    (regOf Tryz.f11 6).wp Tryz.prog Q ⟨#[t0, t1, t2, .string (strB S), t4, .pointer (some ⟨fb, 0, none⟩), t6, t7, t8, t9, t10, t11, t12, t13, t14, t15, t16, t17, t18, t19, t20, t21, t22, t23, t24, t25, t26, t27, t28, t29, t30, t31, t32, t33, t34, t35, t36, t37, t38, t39, t40, t41, t42, t43, t44, t45, t46, t47, t48, t49, t50, t51, t52, t53, t54, t55, t56, t57, t58, t59, t60, t61, t62], ds⟩ W := by
  have H := Lib.hid h; clear h
  have h12 := hp.1
  have q1 := hp.2.1
  have q2 := hp.2.2.1
  have q3 := hp.2.2.2.1
  have q4 := hp.2.2.2.2
  have s1 : (strB (itoa p.2.fx)).size ≤ 20 := by rw [strB_size]; exact itoa_le q1
  have s2 : (strB (itoa p.2.fz)).size ≤ 20 := by rw [strB_size]; exact itoa_le q2
  have s3 : (strB (itoa p.2.tx)).size ≤ 20 := by rw [strB_size]; exact itoa_le q3
  have s4 : (strB (itoa p.2.tz)).size ≤ 20 := by rw [strB_size]; exact itoa_le q4
  have s5 : (strB S).size ≤ 100000 := by rw [strB_size]; exact hS0
  have HT := Lib.hid (face_text p S)
  have f0 := bf.cell 0
  have f1 := bf.cell 1
  have f2 := bf.cell 2
  have f3 := bf.cell 3
  have f4 := bf.cell 4
  simp at f0 f1 f2 f3 f4
  have lf := bf.lt
  rw [← HT.out] at H
  clear hS0 hp bf
  obtain ⟨nm, fx, fz, tx, tz⟩ := p
  simp only at *
  generalize strB S = SS at *
  conv in (regOf _ _) => whnf
  refine wp_region_w (Gr _) (by kernel_rfl) (Below.refl _ _).drew ?_
  refine wpW_det (t' := ?ct0R2) 0 (by rfl) (by kernel_rfl) (NQ_free _) (by kernel_rfl) ?cw0R2 ?ch0R2 ?ca0R2 (Eq.refl _) ?cH0R2
  case cw0R2 => (go_simp; done)
  case ch0R2 =>
    intro ds w' hS K hK
    have hc := (bcell hS).1; have hf := (bcell hS).2; have hz := hS.size; (try simp at hz); go_simp; (try go_bits)
    first
      | exact hK _ hS (Gr.refl _)
      | (rw [if_neg (by omega)]; go_simp; exact hK _ hS (Gr.refl _))
      | (go_at_call 43; refine (decimal_all _ (by omega) (by omega) _).mono ?_; rintro e wq ⟨rfl, hBq⟩; exact hK _ (Below.trans hS (Below.mono hBq (Below.size hS))) hBq)
  case ca0R2 => (first | (simp [Act.put]; done) | (simp [Act.put, *]; done))
  try dsimp only
  refine wpW_det (t' := ?ct1R2) 1 (by rfl) (by kernel_rfl) (NQ_free _) (by kernel_rfl) ?cw1R2 ?ch1R2 ?ca1R2 (Eq.refl _) ?cH1R2
  case cw1R2 => (go_simp; done)
  case ch1R2 =>
    intro ds w' hS K hK
    have hc := (bcell hS).1; have hf := (bcell hS).2; have hz := hS.size; (try simp at hz); go_simp; (try go_bits)
    first
      | exact hK _ hS (Gr.refl _)
      | (rw [if_neg (by omega)]; go_simp; exact hK _ hS (Gr.refl _))
      | (go_at_call 43; refine (decimal_all _ (by omega) (by omega) _).mono ?_; rintro e wq ⟨rfl, hBq⟩; exact hK _ (Below.trans hS (Below.mono hBq (Below.size hS))) hBq)
  case ca1R2 => (first | (simp [Act.put]; done) | (simp [Act.put, *]; done))
  try dsimp only
  refine wpW_det (t' := ?ct2R2) 2 (by rfl) (by kernel_rfl) (NQ_free _) (by kernel_rfl) ?cw2R2 ?ch2R2 ?ca2R2 (Eq.refl _) ?cH2R2
  case cw2R2 => (go_simp; done)
  case ch2R2 =>
    intro ds w' hS K hK
    have hc := (bcell hS).1; have hf := (bcell hS).2; have hz := hS.size; (try simp at hz); go_simp; (try go_bits)
    first
      | exact hK _ hS (Gr.refl _)
      | (rw [if_neg (by omega)]; go_simp; exact hK _ hS (Gr.refl _))
      | (go_at_call 43; refine (decimal_all _ (by omega) (by omega) _).mono ?_; rintro e wq ⟨rfl, hBq⟩; exact hK _ (Below.trans hS (Below.mono hBq (Below.size hS))) hBq)
  case ca2R2 => (first | (simp [Act.put]; done) | (simp [Act.put, *]; done))
  try dsimp only
  refine wpW_det (t' := ?ct3R2) 3 (by rfl) (by kernel_rfl) (NQ_free _) (by kernel_rfl) ?cw3R2 ?ch3R2 ?ca3R2 (Eq.refl _) ?cH3R2
  case cw3R2 => (go_simp; done)
  case ch3R2 =>
    intro ds w' hS K hK
    have hc := (bcell hS).1; have hf := (bcell hS).2; have hz := hS.size; (try simp at hz); go_simp; (try go_bits)
    first
      | exact hK _ hS (Gr.refl _)
      | (rw [if_neg (by omega)]; go_simp; exact hK _ hS (Gr.refl _))
      | (go_at_call 43; refine (decimal_all _ (by omega) (by omega) _).mono ?_; rintro e wq ⟨rfl, hBq⟩; exact hK _ (Below.trans hS (Below.mono hBq (Below.size hS))) hBq)
  case ca3R2 => (first | (simp [Act.put]; done) | (simp [Act.put, *]; done))
  try dsimp only
  refine wpW_det (t' := ?ct4R2) 4 (by rfl) (by kernel_rfl) (NQ_free _) (by kernel_rfl) ?cw4R2 ?ch4R2 ?ca4R2 (Eq.refl _) ?cH4R2
  case cw4R2 => (go_simp; done)
  case ch4R2 =>
    intro ds w' hS K hK
    have hc := (bcell hS).1; have hf := (bcell hS).2; have hz := hS.size; (try simp at hz); go_simp; (try go_bits)
    first
      | exact hK _ hS (Gr.refl _)
      | (rw [if_neg (by omega)]; go_simp; exact hK _ hS (Gr.refl _))
      | (go_at_call 43; refine (decimal_all _ (by omega) (by omega) _).mono ?_; rintro e wq ⟨rfl, hBq⟩; exact hK _ (Below.trans hS (Below.mono hBq (Below.size hS))) hBq)
  case ca4R2 => (first | (simp [Act.put]; done) | (simp [Act.put, *]; done))
  try dsimp only
  refine wpW_det (t' := ?ct5R2) 5 (by rfl) (by kernel_rfl) (NQ_free _) (by kernel_rfl) ?cw5R2 ?ch5R2 ?ca5R2 (Eq.refl _) ?cH5R2
  case cw5R2 => (go_simp; done)
  case ch5R2 =>
    intro ds w' hS K hK
    have hc := (bcell hS).1; have hf := (bcell hS).2; have hz := hS.size; (try simp at hz); go_simp; (try go_bits)
    first
      | exact hK _ hS (Gr.refl _)
      | (rw [if_neg (by omega)]; go_simp; exact hK _ hS (Gr.refl _))
      | (go_at_call 43; refine (decimal_all _ (by omega) (by omega) _).mono ?_; rintro e wq ⟨rfl, hBq⟩; exact hK _ (Below.trans hS (Below.mono hBq (Below.size hS))) hBq)
  case ca5R2 => (first | (simp [Act.put]; done) | (simp [Act.put, *]; done))
  try dsimp only
  refine wpW_det (t' := ?ct6R2) 6 (by rfl) (by kernel_rfl) (NQ_free _) (by kernel_rfl) ?cw6R2 ?ch6R2 ?ca6R2 (Eq.refl _) ?cH6R2
  case cw6R2 => (go_simp; done)
  case ch6R2 =>
    intro ds w' hS K hK
    have hc := (bcell hS).1; have hf := (bcell hS).2; have hz := hS.size; (try simp at hz); go_simp; (try go_bits)
    first
      | exact hK _ hS (Gr.refl _)
      | (rw [if_neg (by omega)]; go_simp; exact hK _ hS (Gr.refl _))
      | (go_at_call 43; refine (decimal_all _ (by omega) (by omega) _).mono ?_; rintro e wq ⟨rfl, hBq⟩; exact hK _ (Below.trans hS (Below.mono hBq (Below.size hS))) hBq)
  case ca6R2 => (first | (simp [Act.put]; done) | (simp [Act.put, *]; done))
  try dsimp only
  refine wpW_det (t' := ?ct7R2) 7 (by rfl) (by kernel_rfl) (NQ_free _) (by kernel_rfl) ?cw7R2 ?ch7R2 ?ca7R2 (Eq.refl _) ?cH7R2
  case cw7R2 => (go_simp; done)
  case ch7R2 =>
    intro ds w' hS K hK
    have hc := (bcell hS).1; have hf := (bcell hS).2; have hz := hS.size; (try simp at hz); go_simp; (try go_bits)
    first
      | exact hK _ hS (Gr.refl _)
      | (rw [if_neg (by omega)]; go_simp; exact hK _ hS (Gr.refl _))
      | (go_at_call 43; refine (decimal_all _ (by omega) (by omega) _).mono ?_; rintro e wq ⟨rfl, hBq⟩; exact hK _ (Below.trans hS (Below.mono hBq (Below.size hS))) hBq)
  case ca7R2 => (first | (simp [Act.put]; done) | (simp [Act.put, *]; done))
  try dsimp only
  refine wpW_det (t' := ?ct8R2) 8 (by rfl) (by kernel_rfl) (NQ_free _) (by kernel_rfl) ?cw8R2 ?ch8R2 ?ca8R2 (Eq.refl _) ?cH8R2
  case cw8R2 => (go_simp; done)
  case ch8R2 =>
    intro ds w' hS K hK
    have hc := (bcell hS).1; have hf := (bcell hS).2; have hz := hS.size; (try simp at hz); go_simp; (try go_bits)
    first
      | exact hK _ hS (Gr.refl _)
      | (rw [if_neg (by omega)]; go_simp; exact hK _ hS (Gr.refl _))
      | (go_at_call 43; refine (decimal_all _ (by omega) (by omega) _).mono ?_; rintro e wq ⟨rfl, hBq⟩; exact hK _ (Below.trans hS (Below.mono hBq (Below.size hS))) hBq)
  case ca8R2 => (first | (simp [Act.put]; done) | (simp [Act.put, *]; done))
  try dsimp only
  refine wpW_det (t' := ?ct9R2) 9 (by rfl) (by kernel_rfl) (NQ_free _) (by kernel_rfl) ?cw9R2 ?ch9R2 ?ca9R2 (Eq.refl _) ?cH9R2
  case cw9R2 => (go_simp; done)
  case ch9R2 =>
    intro ds w' hS K hK
    have hc := (bcell hS).1; have hf := (bcell hS).2; have hz := hS.size; (try simp at hz); go_simp; (try go_bits)
    first
      | exact hK _ hS (Gr.refl _)
      | (rw [if_neg (by omega)]; go_simp; exact hK _ hS (Gr.refl _))
      | (go_at_call 43; refine (decimal_all _ (by omega) (by omega) _).mono ?_; rintro e wq ⟨rfl, hBq⟩; exact hK _ (Below.trans hS (Below.mono hBq (Below.size hS))) hBq)
  case ca9R2 => (first | (simp [Act.put]; done) | (simp [Act.put, *]; done))
  try dsimp only
  refine wpW_det (t' := ?ct10R2) 10 (by rfl) (by kernel_rfl) (NQ_free _) (by kernel_rfl) ?cw10R2 ?ch10R2 ?ca10R2 (Eq.refl _) ?cH10R2
  case cw10R2 => (go_simp; done)
  case ch10R2 =>
    intro ds w' hS K hK
    have hc := (bcell hS).1; have hf := (bcell hS).2; have hz := hS.size; (try simp at hz); go_simp; (try go_bits)
    first
      | exact hK _ hS (Gr.refl _)
      | (rw [if_neg (by omega)]; go_simp; exact hK _ hS (Gr.refl _))
      | (go_at_call 43; refine (decimal_all _ (by omega) (by omega) _).mono ?_; rintro e wq ⟨rfl, hBq⟩; exact hK _ (Below.trans hS (Below.mono hBq (Below.size hS))) hBq)
  case ca10R2 => (first | (simp [Act.put]; done) | (simp [Act.put, *]; done))
  try dsimp only
  refine wpW_det (t' := ?ct11R2) 11 (by rfl) (by kernel_rfl) (NQ_free _) (by kernel_rfl) ?cw11R2 ?ch11R2 ?ca11R2 (Eq.refl _) ?cH11R2
  case cw11R2 => (go_simp; done)
  case ch11R2 =>
    intro ds w' hS K hK
    have hc := (bcell hS).1; have hf := (bcell hS).2; have hz := hS.size; (try simp at hz); go_simp; (try go_bits)
    first
      | exact hK _ hS (Gr.refl _)
      | (rw [if_neg (by omega)]; go_simp; exact hK _ hS (Gr.refl _))
      | (go_at_call 43; refine (decimal_all _ (by omega) (by omega) _).mono ?_; rintro e wq ⟨rfl, hBq⟩; exact hK _ (Below.trans hS (Below.mono hBq (Below.size hS))) hBq)
  case ca11R2 => (first | (simp [Act.put]; done) | (simp [Act.put, *]; done))
  try dsimp only
  refine wpW_det (t' := ?ct12R2) 12 (by rfl) (by kernel_rfl) (NQ_free _) (by kernel_rfl) ?cw12R2 ?ch12R2 ?ca12R2 (Eq.refl _) ?cH12R2
  case cw12R2 => (go_simp; done)
  case ch12R2 =>
    intro ds w' hS K hK
    have hc := (bcell hS).1; have hf := (bcell hS).2; have hz := hS.size; (try simp at hz); go_simp; (try go_bits)
    first
      | exact hK _ hS (Gr.refl _)
      | (rw [if_neg (by omega)]; go_simp; exact hK _ hS (Gr.refl _))
      | (go_at_call 43; refine (decimal_all _ (by omega) (by omega) _).mono ?_; rintro e wq ⟨rfl, hBq⟩; exact hK _ (Below.trans hS (Below.mono hBq (Below.size hS))) hBq)
  case ca12R2 => (first | (simp [Act.put]; done) | (simp [Act.put, *]; done))
  try dsimp only
  refine wpW_det (t' := ?ct13R2) 13 (by rfl) (by kernel_rfl) (NQ_free _) (by kernel_rfl) ?cw13R2 ?ch13R2 ?ca13R2 (Eq.refl _) ?cH13R2
  case cw13R2 => (go_simp; done)
  case ch13R2 =>
    intro ds w' hS K hK
    have hc := (bcell hS).1; have hf := (bcell hS).2; have hz := hS.size; (try simp at hz); go_simp; (try go_bits)
    first
      | exact hK _ hS (Gr.refl _)
      | (rw [if_neg (by omega)]; go_simp; exact hK _ hS (Gr.refl _))
      | (go_at_call 43; refine (decimal_all _ (by omega) (by omega) _).mono ?_; rintro e wq ⟨rfl, hBq⟩; exact hK _ (Below.trans hS (Below.mono hBq (Below.size hS))) hBq)
  case ca13R2 => (first | (simp [Act.put]; done) | (simp [Act.put, *]; done))
  try dsimp only
  refine wpW_det (t' := ?ct14R2) 14 (by rfl) (by kernel_rfl) (NQ_free _) (by kernel_rfl) ?cw14R2 ?ch14R2 ?ca14R2 (Eq.refl _) ?cH14R2
  case cw14R2 => (go_simp; done)
  case ch14R2 =>
    intro ds w' hS K hK
    have hc := (bcell hS).1; have hf := (bcell hS).2; have hz := hS.size; (try simp at hz); go_simp; (try go_bits)
    first
      | exact hK _ hS (Gr.refl _)
      | (rw [if_neg (by omega)]; go_simp; exact hK _ hS (Gr.refl _))
      | (go_at_call 43; refine (decimal_all _ (by omega) (by omega) _).mono ?_; rintro e wq ⟨rfl, hBq⟩; exact hK _ (Below.trans hS (Below.mono hBq (Below.size hS))) hBq)
  case ca14R2 => (first | (simp [Act.put]; done) | (simp [Act.put, *]; done))
  try dsimp only
  refine wpW_det (t' := ?ct15R2) 15 (by rfl) (by kernel_rfl) (NQ_free _) (by kernel_rfl) ?cw15R2 ?ch15R2 ?ca15R2 (Eq.refl _) ?cH15R2
  case cw15R2 => (go_simp; done)
  case ch15R2 =>
    intro ds w' hS K hK
    have hc := (bcell hS).1; have hf := (bcell hS).2; have hz := hS.size; (try simp at hz); go_simp; (try go_bits)
    first
      | exact hK _ hS (Gr.refl _)
      | (rw [if_neg (by omega)]; go_simp; exact hK _ hS (Gr.refl _))
      | (go_at_call 43; refine (decimal_all _ (by omega) (by omega) _).mono ?_; rintro e wq ⟨rfl, hBq⟩; exact hK _ (Below.trans hS (Below.mono hBq (Below.size hS))) hBq)
  case ca15R2 => (first | (simp [Act.put]; done) | (simp [Act.put, *]; done))
  try dsimp only
  refine wpW_det (t' := ?ct16R2) 16 (by rfl) (by kernel_rfl) (NQ_free _) (by kernel_rfl) ?cw16R2 ?ch16R2 ?ca16R2 (Eq.refl _) ?cH16R2
  case cw16R2 => (go_simp; done)
  case ch16R2 =>
    intro ds w' hS K hK
    have hc := (bcell hS).1; have hf := (bcell hS).2; have hz := hS.size; (try simp at hz); go_simp; (try go_bits)
    first
      | exact hK _ hS (Gr.refl _)
      | (rw [if_neg (by omega)]; go_simp; exact hK _ hS (Gr.refl _))
      | (go_at_call 43; refine (decimal_all _ (by omega) (by omega) _).mono ?_; rintro e wq ⟨rfl, hBq⟩; exact hK _ (Below.trans hS (Below.mono hBq (Below.size hS))) hBq)
  case ca16R2 => (first | (simp [Act.put]; done) | (simp [Act.put, *]; done))
  try dsimp only
  refine wpW_det (t' := ?ct17R2) 17 (by rfl) (by kernel_rfl) (NQ_free _) (by kernel_rfl) ?cw17R2 ?ch17R2 ?ca17R2 (Eq.refl _) ?cH17R2
  case cw17R2 => (go_simp; done)
  case ch17R2 =>
    intro ds w' hS K hK
    have hc := (bcell hS).1; have hf := (bcell hS).2; have hz := hS.size; (try simp at hz); go_simp; (try go_bits)
    first
      | exact hK _ hS (Gr.refl _)
      | (rw [if_neg (by omega)]; go_simp; exact hK _ hS (Gr.refl _))
      | (go_at_call 43; refine (decimal_all _ (by omega) (by omega) _).mono ?_; rintro e wq ⟨rfl, hBq⟩; exact hK _ (Below.trans hS (Below.mono hBq (Below.size hS))) hBq)
  case ca17R2 => (first | (simp [Act.put]; done) | (simp [Act.put, *]; done))
  try dsimp only
  refine wpW_det (t' := ?ct18R2) 18 (by rfl) (by kernel_rfl) (NQ_free _) (by kernel_rfl) ?cw18R2 ?ch18R2 ?ca18R2 (Eq.refl _) ?cH18R2
  case cw18R2 => (go_simp; done)
  case ch18R2 =>
    intro ds w' hS K hK
    have hc := (bcell hS).1; have hf := (bcell hS).2; have hz := hS.size; (try simp at hz); go_simp; (try go_bits)
    first
      | exact hK _ hS (Gr.refl _)
      | (rw [if_neg (by omega)]; go_simp; exact hK _ hS (Gr.refl _))
      | (go_at_call 43; refine (decimal_all _ (by omega) (by omega) _).mono ?_; rintro e wq ⟨rfl, hBq⟩; exact hK _ (Below.trans hS (Below.mono hBq (Below.size hS))) hBq)
  case ca18R2 => (first | (simp [Act.put]; done) | (simp [Act.put, *]; done))
  try dsimp only
  refine wpW_det (t' := ?ct19R2) 19 (by rfl) (by kernel_rfl) (NQ_free _) (by kernel_rfl) ?cw19R2 ?ch19R2 ?ca19R2 (Eq.refl _) ?cH19R2
  case cw19R2 => (go_simp; done)
  case ch19R2 =>
    intro ds w' hS K hK
    have hc := (bcell hS).1; have hf := (bcell hS).2; have hz := hS.size; (try simp at hz); go_simp; (try go_bits)
    first
      | exact hK _ hS (Gr.refl _)
      | (rw [if_neg (by omega)]; go_simp; exact hK _ hS (Gr.refl _))
      | (go_at_call 43; refine (decimal_all _ (by omega) (by omega) _).mono ?_; rintro e wq ⟨rfl, hBq⟩; exact hK _ (Below.trans hS (Below.mono hBq (Below.size hS))) hBq)
  case ca19R2 => (first | (simp [Act.put]; done) | (simp [Act.put, *]; done))
  try dsimp only
  refine wpW_det (t' := ?ct20R2) 20 (by rfl) (by kernel_rfl) (NQ_free _) (by kernel_rfl) ?cw20R2 ?ch20R2 ?ca20R2 (Eq.refl _) ?cH20R2
  case cw20R2 => (go_simp; done)
  case ch20R2 =>
    intro ds w' hS K hK
    have hc := (bcell hS).1; have hf := (bcell hS).2; have hz := hS.size; (try simp at hz); go_simp; (try go_bits)
    first
      | exact hK _ hS (Gr.refl _)
      | (rw [if_neg (by omega)]; go_simp; exact hK _ hS (Gr.refl _))
      | (go_at_call 43; refine (decimal_all _ (by omega) (by omega) _).mono ?_; rintro e wq ⟨rfl, hBq⟩; exact hK _ (Below.trans hS (Below.mono hBq (Below.size hS))) hBq)
  case ca20R2 => (first | (simp [Act.put]; done) | (simp [Act.put, *]; done))
  try dsimp only
  refine wpW_det (t' := ?ct21R2) 21 (by rfl) (by kernel_rfl) (NQ_free _) (by kernel_rfl) ?cw21R2 ?ch21R2 ?ca21R2 (Eq.refl _) ?cH21R2
  case cw21R2 => (go_simp; done)
  case ch21R2 =>
    intro ds w' hS K hK
    have hc := (bcell hS).1; have hf := (bcell hS).2; have hz := hS.size; (try simp at hz); go_simp; (try go_bits)
    first
      | exact hK _ hS (Gr.refl _)
      | (rw [if_neg (by omega)]; go_simp; exact hK _ hS (Gr.refl _))
      | (go_at_call 43; refine (decimal_all _ (by omega) (by omega) _).mono ?_; rintro e wq ⟨rfl, hBq⟩; exact hK _ (Below.trans hS (Below.mono hBq (Below.size hS))) hBq)
  case ca21R2 => (first | (simp [Act.put]; done) | (simp [Act.put, *]; done))
  try dsimp only
  refine wpW_det (t' := ?ct22R2) 22 (by rfl) (by kernel_rfl) (NQ_free _) (by kernel_rfl) ?cw22R2 ?ch22R2 ?ca22R2 (Eq.refl _) ?cH22R2
  case cw22R2 => (go_simp; done)
  case ch22R2 =>
    intro ds w' hS K hK
    have hc := (bcell hS).1; have hf := (bcell hS).2; have hz := hS.size; (try simp at hz); go_simp; (try go_bits)
    first
      | exact hK _ hS (Gr.refl _)
      | (rw [if_neg (by omega)]; go_simp; exact hK _ hS (Gr.refl _))
      | (go_at_call 43; refine (decimal_all _ (by omega) (by omega) _).mono ?_; rintro e wq ⟨rfl, hBq⟩; exact hK _ (Below.trans hS (Below.mono hBq (Below.size hS))) hBq)
  case ca22R2 => (first | (simp [Act.put]; done) | (simp [Act.put, *]; done))
  try dsimp only
  refine wpW_det (t' := ?ct23R2) 23 (by rfl) (by kernel_rfl) (NQ_free _) (by kernel_rfl) ?cw23R2 ?ch23R2 ?ca23R2 (Eq.refl _) ?cH23R2
  case cw23R2 => (go_simp; done)
  case ch23R2 =>
    intro ds w' hS K hK
    have hc := (bcell hS).1; have hf := (bcell hS).2; have hz := hS.size; (try simp at hz); go_simp; (try go_bits)
    first
      | exact hK _ hS (Gr.refl _)
      | (rw [if_neg (by omega)]; go_simp; exact hK _ hS (Gr.refl _))
      | (go_at_call 43; refine (decimal_all _ (by omega) (by omega) _).mono ?_; rintro e wq ⟨rfl, hBq⟩; exact hK _ (Below.trans hS (Below.mono hBq (Below.size hS))) hBq)
  case ca23R2 => (first | (simp [Act.put]; done) | (simp [Act.put, *]; done))
  try dsimp only
  refine wpW_det (t' := ?ct24R2) 24 (by rfl) (by kernel_rfl) (NQ_free _) (by kernel_rfl) ?cw24R2 ?ch24R2 ?ca24R2 (Eq.refl _) ?cH24R2
  case cw24R2 => (go_simp; done)
  case ch24R2 =>
    intro ds w' hS K hK
    have hc := (bcell hS).1; have hf := (bcell hS).2; have hz := hS.size; (try simp at hz); go_simp; (try go_bits)
    first
      | exact hK _ hS (Gr.refl _)
      | (rw [if_neg (by omega)]; go_simp; exact hK _ hS (Gr.refl _))
      | (go_at_call 43; refine (decimal_all _ (by omega) (by omega) _).mono ?_; rintro e wq ⟨rfl, hBq⟩; exact hK _ (Below.trans hS (Below.mono hBq (Below.size hS))) hBq)
  case ca24R2 => (first | (simp [Act.put]; done) | (simp [Act.put, *]; done))
  try dsimp only
  refine wpW_det (t' := ?ct25R2) 25 (by rfl) (by kernel_rfl) (NQ_free _) (by kernel_rfl) ?cw25R2 ?ch25R2 ?ca25R2 (Eq.refl _) ?cH25R2
  case cw25R2 => (go_simp; done)
  case ch25R2 =>
    intro ds w' hS K hK
    have hc := (bcell hS).1; have hf := (bcell hS).2; have hz := hS.size; (try simp at hz); go_simp; (try go_bits)
    first
      | exact hK _ hS (Gr.refl _)
      | (rw [if_neg (by omega)]; go_simp; exact hK _ hS (Gr.refl _))
      | (go_at_call 43; refine (decimal_all _ (by omega) (by omega) _).mono ?_; rintro e wq ⟨rfl, hBq⟩; exact hK _ (Below.trans hS (Below.mono hBq (Below.size hS))) hBq)
  case ca25R2 => (first | (simp [Act.put]; done) | (simp [Act.put, *]; done))
  try dsimp only
  refine wpW_det (t' := ?ct26R2) 26 (by rfl) (by kernel_rfl) (NQ_free _) (by kernel_rfl) ?cw26R2 ?ch26R2 ?ca26R2 (Eq.refl _) ?cH26R2
  case cw26R2 => (go_simp; done)
  case ch26R2 =>
    intro ds w' hS K hK
    have hc := (bcell hS).1; have hf := (bcell hS).2; have hz := hS.size; (try simp at hz); go_simp; (try go_bits)
    first
      | exact hK _ hS (Gr.refl _)
      | (rw [if_neg (by omega)]; go_simp; exact hK _ hS (Gr.refl _))
      | (go_at_call 43; refine (decimal_all _ (by omega) (by omega) _).mono ?_; rintro e wq ⟨rfl, hBq⟩; exact hK _ (Below.trans hS (Below.mono hBq (Below.size hS))) hBq)
  case ca26R2 => (first | (simp [Act.put]; done) | (simp [Act.put, *]; done))
  try dsimp only
  refine wpW_det (t' := ?ct27R2) 27 (by rfl) (by kernel_rfl) (NQ_free _) (by kernel_rfl) ?cw27R2 ?ch27R2 ?ca27R2 (Eq.refl _) ?cH27R2
  case cw27R2 => (go_simp; done)
  case ch27R2 =>
    intro ds w' hS K hK
    have hc := (bcell hS).1; have hf := (bcell hS).2; have hz := hS.size; (try simp at hz); go_simp; (try go_bits)
    first
      | exact hK _ hS (Gr.refl _)
      | (rw [if_neg (by omega)]; go_simp; exact hK _ hS (Gr.refl _))
      | (go_at_call 43; refine (decimal_all _ (by omega) (by omega) _).mono ?_; rintro e wq ⟨rfl, hBq⟩; exact hK _ (Below.trans hS (Below.mono hBq (Below.size hS))) hBq)
  case ca27R2 => (first | (simp [Act.put]; done) | (simp [Act.put, *]; done))
  try dsimp only
  refine wpW_det (t' := ?ct28R2) 28 (by rfl) (by kernel_rfl) (NQ_free _) (by kernel_rfl) ?cw28R2 ?ch28R2 ?ca28R2 (Eq.refl _) ?cH28R2
  case cw28R2 => (go_simp; done)
  case ch28R2 =>
    intro ds w' hS K hK
    have hc := (bcell hS).1; have hf := (bcell hS).2; have hz := hS.size; (try simp at hz); go_simp; (try go_bits)
    first
      | exact hK _ hS (Gr.refl _)
      | (rw [if_neg (by omega)]; go_simp; exact hK _ hS (Gr.refl _))
      | (go_at_call 43; refine (decimal_all _ (by omega) (by omega) _).mono ?_; rintro e wq ⟨rfl, hBq⟩; exact hK _ (Below.trans hS (Below.mono hBq (Below.size hS))) hBq)
  case ca28R2 => (first | (simp [Act.put]; done) | (simp [Act.put, *]; done))
  try dsimp only
  refine wpW_det (t' := ?ct29R2) 29 (by rfl) (by kernel_rfl) (NQ_free _) (by kernel_rfl) ?cw29R2 ?ch29R2 ?ca29R2 (Eq.refl _) ?cH29R2
  case cw29R2 => (go_simp; done)
  case ch29R2 =>
    intro ds w' hS K hK
    have hc := (bcell hS).1; have hf := (bcell hS).2; have hz := hS.size; (try simp at hz); go_simp; (try go_bits)
    first
      | exact hK _ hS (Gr.refl _)
      | (rw [if_neg (by omega)]; go_simp; exact hK _ hS (Gr.refl _))
      | (go_at_call 43; refine (decimal_all _ (by omega) (by omega) _).mono ?_; rintro e wq ⟨rfl, hBq⟩; exact hK _ (Below.trans hS (Below.mono hBq (Below.size hS))) hBq)
  case ca29R2 => (first | (simp [Act.put]; done) | (simp [Act.put, *]; done))
  try dsimp only
  refine wpW_det (t' := ?ct30R2) 30 (by rfl) (by kernel_rfl) (NQ_free _) (by kernel_rfl) ?cw30R2 ?ch30R2 ?ca30R2 (Eq.refl _) ?cH30R2
  case cw30R2 => (go_simp; done)
  case ch30R2 =>
    intro ds w' hS K hK
    have hc := (bcell hS).1; have hf := (bcell hS).2; have hz := hS.size; (try simp at hz); go_simp; (try go_bits)
    first
      | exact hK _ hS (Gr.refl _)
      | (rw [if_neg (by omega)]; go_simp; exact hK _ hS (Gr.refl _))
      | (go_at_call 43; refine (decimal_all _ (by omega) (by omega) _).mono ?_; rintro e wq ⟨rfl, hBq⟩; exact hK _ (Below.trans hS (Below.mono hBq (Below.size hS))) hBq)
  case ca30R2 => (first | (simp [Act.put]; done) | (simp [Act.put, *]; done))
  try dsimp only
  refine wpW_end (by kernel_rfl) ?_
  intro we hg hS
  unfold NQ
  dsimp only
  exact H.out _ _ _ _ _ _ _ _ _ _ _ _ _ _ _ _ _ _ _ _ _ _ _ _ _ _ _ _ _ _ we hS

set_option maxRecDepth 100000 in
set_option maxHeartbeats 8000000 in
theorem rPrint_any (j : Jo) (A : Option Addr) (c B : Nat) (w : World) (hj : PrOk j) (_hc : j.fs.length ≤ c ∧ c ≤ 9223372036854775807) (hR : Row w B 5 A j.fs.length (fcsC j.fs)) (hB : B ≤ w.heap.size) :
    Calls Tryz.prog 11 #[.agg #[.string j.nm, .int .i64 j.thick, .int .i64 j.zone, .slice A j.fs.length c]] w fun e w' => e = .returned (.string (strB (printL j))) ∧ Below w.heap.size w w' := by
  have bj := Blk.new w 24 #[.string j.nm, .int .i64 j.thick, .int .i64 j.zone, .slice A j.fs.length c]
  have hB0 : Below w.heap.size w (w.alloc (.cells #[.string j.nm, .int .i64 j.thick, .int .i64 j.zone, .slice A j.fs.length c] 24)) := ((Below.refl _ _).alloc (Nat.le_refl _) _)
  have hlen := hj.len
  have HJ := Lib.hid hj
  have HR := Lib.hid hR
  clear hR hj
  go_enter Tryz.func11, Tryz.ntmps11
  go_upto_region 1 with fail
  refine rpReg1 HJ.out bj _ ?_
  intro t6 t7 t8 t9 t10 t11 t12 t13 t14 t15 t16 t17 t18 t19 w1 hB1
  replace bj := bj.gr hB1
  replace hB0 := hB0.trans (hB1.mono (Below.size hB0))
  clear hB1
  dsimp only
  go_wp2
  go_loopw [3, 4] (fun s3 s4 wr => ∃ k : Nat, s3 = .string (strB (printK j k)) ∧ s4 = .int .i64 k ∧ k ≤ j.fs.length ∧ Blk wr w.heap.size 24 #[.string j.nm, .int .i64 j.thick, .int .i64 j.zone, .slice A j.fs.length c] ∧ Below w.heap.size w wr) (fun _ s4 _ => j.fs.length - (RowKit.intOf s4).toNat)
  case atStart => exact ⟨0, rfl, rfl, Nat.zero_le _, bj, hB0⟩
  case round =>
    clear bj hB0
    obtain ⟨k, rfl, rfl, hk, bj, hBB⟩ := hrel
    obtain ⟨j0, j1, j2, j3, jf⟩ := blk4 bj
    have lj := bj.lt
    have hzB := Below.size hBB
    by_cases hlt : k < j.fs.length
    · have hlI : (k : Int) < (j.fs.length : Int) := by omega
      obtain ⟨g, o, rfl, hgB, f0, f1, f2, f3, f4⟩ := faceCells (HR.out.below (hBB.mono hB) (Nat.le_refl _)) hlt
      have HF := Lib.hid (HJ.out.fs _ (List.getElem_mem hlt))
      have HP := Lib.hid (printK_succ j hlt)
      have HL := Lib.hid (printK_len HJ.out k hk)
      have hgw : g < wr.heap.size := by omega
      generalize j.fs[k] = p at *
      go_upto_region 6 with fail
      refine rpReg6 (S := printK j k) (p := p) (by have := HL.out; omega) HF.out (Blk.new wr 83 #[.string p.1, .int .i64 p.2.fx, .int .i64 p.2.fz, .int .i64 p.2.tx, .int .i64 p.2.tz]) _ ?_
      intro t32 t33 t34 t35 t36 t37 t38 t39 t40 t41 t42 t43 t44 t45 t46 t47 t48 t49 t50 t51 t52 t53 t54 t55 t56 t57 t58 t59 t60 t61 w4 hB4
      have hB5 : Below wr.heap.size wr w4 := ((Below.refl _ _).alloc (Nat.le_refl _) _).trans (hB4.mono (by simp))
      rw [← HP.out]
      dsimp only
      go_wp2
      exact ⟨⟨k + 1, rfl, by go_num, by omega, bj.gr hB5, hBB.trans (hB5.mono hzB)⟩, by (first | (simp [RowKit.intOf]; done) | (simp [RowKit.intOf]; omega))⟩
    · obtain rfl : k = j.fs.length := by omega
      rw [printK_done]
      go_wp2
      go_ret
      exact ⟨rfl, hBB⟩
end Go.Proofs.YtaekcfancfoccaaGreatDoor
