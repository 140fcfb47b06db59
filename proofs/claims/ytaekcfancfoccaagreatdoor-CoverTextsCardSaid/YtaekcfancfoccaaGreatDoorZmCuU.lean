/- The text of a joint is read back (plain law). -/
import Derived.Test.YtaekcfancfoccaaGreatDoorZmCuQ
namespace Go.Proofs.YtaekcfancfoccaaGreatDoor
open Go.RowKit Go.Lib

def wordOk (w : List UInt8) : Prop := w ≠ [] ∧ ∀ b ∈ w, blankB b = false ∧ b ≠ 10
def posW : Nat → List (List UInt8) → List (Nat × Nat)
  | _, [] => []
  | i, w :: r => (i, i + w.length) :: posW (i + w.length + 1) r
def colsW : Nat → List (List UInt8) → List (ByteArray × Int)
  | _, [] => []
  | i, w :: r => (strB w, ((i + 1 : Nat) : Int)) :: colsW (i + w.length + 1) r
theorem runEnd_word : ∀ (w p r : List UInt8), (∀ b ∈ w, blankB b = false) → (r = [] ∨ ∃ b r', r = b :: r' ∧ blankB b = true) → runEnd (p ++ w ++ r) p.length = p.length + w.length
  | [], p, r, _, hr => by
    rcases hr with rfl | ⟨b, r', rfl, hb⟩
    · rw [runEnd_end _ _ (by simp)]; rfl
    · rw [runEnd_stop _ _ (by simp) (by simpa using hb)]; rfl
  | c :: w, p, r, hw, hr => by
    have ih := runEnd_word w (p ++ [c]) r (fun b hb => hw b (by simp [hb])) hr
    have e : p ++ [c] ++ w ++ r = p ++ c :: w ++ r := by simp
    rw [e] at ih
    have hc : blankB c = false := hw c (by simp)
    rw [runEnd_go _ _ (by simp) (by simpa using hc)]
    simp only [List.length_append, List.length_cons, List.length_nil] at ih ⊢
    rw [ih]; omega
theorem join_two (x y : List UInt8) (r : List (List UInt8)) : join (x :: y :: r) [32] = x ++ [32] ++ join (y :: r) [32] := by
  simp [join, List.intercalate, List.intersperse]
theorem words_line : ∀ (ws : List (List UInt8)) (p : List UInt8), (∀ w ∈ ws, wordOk w) → wordsW (p ++ join ws [32]) p.length = posW p.length ws
  | [], p, _ => by rw [join_nil, wordsW_end _ _ (by simp)]; rfl
  | [w], p, h => by
    have hw := h w (by simp)
    rw [join_one]
    have e := runEnd_word w p [] (fun b hb => (hw.2 b hb).1) (.inl rfl)
    rw [List.append_nil] at e
    obtain ⟨c, w', rfl⟩ : ∃ c w', w = c :: w' := by cases w with | nil => exact absurd rfl hw.1 | cons c w' => exact ⟨c, w', rfl⟩
    have hc : blankB c = false := (hw.2 c (by simp)).1
    rw [wordsW_word _ _ (by simp) (by simpa using hc), e, wordsW_end _ _ (by simp)]
    rfl
  | w :: w2 :: r, p, h => by
    have hw := h w (by simp)
    have ih := words_line (w2 :: r) (p ++ w ++ [32]) (fun x hx => h x (by simp only [List.mem_cons] at hx ⊢; exact .inr hx))
    rw [join_two]
    have ea : p ++ (w ++ [32] ++ join (w2 :: r) [32]) = p ++ w ++ (32 :: join (w2 :: r) [32]) := by simp
    have eb : p ++ w ++ [32] ++ join (w2 :: r) [32] = p ++ w ++ (32 :: join (w2 :: r) [32]) := by simp
    have e := runEnd_word w p (32 :: join (w2 :: r) [32]) (fun b hb => (hw.2 b hb).1) (.inr ⟨32, _, rfl, rfl⟩)
    rw [ea]
    rw [eb] at ih
    have el : (p ++ w ++ [32]).length = p.length + w.length + 1 := by simp; omega
    rw [el] at ih
    obtain ⟨c, w', hcw⟩ : ∃ c w', w = c :: w' := by cases w with | nil => exact absurd rfl hw.1 | cons c w' => exact ⟨c, w', rfl⟩
    have hc : blankB c = false := (hw.2 c (by rw [hcw]; simp)).1
    rw [wordsW_word _ _ (by rw [hcw]; simp) (by subst hcw; simpa using hc), e, ih]
    rfl
theorem word_at (p w r : List UInt8) : wordB (strB (p ++ w ++ r)) (p.length, p.length + w.length) = strB w := by
  unfold wordB
  rw [ext_piece, strB_data]
  congr 1
  simp only
  rw [List.append_assoc, List.drop_left, Nat.add_sub_cancel_left, List.take_left]
theorem cols_line : ∀ (ws : List (List UInt8)) (p : List UInt8), wordsC (strB (p ++ join ws [32])) (posW p.length ws) = colsW p.length ws
  | [], _ => rfl
  | [w], p => by
    have e := word_at p w []
    rw [List.append_nil] at e
    rw [join_one]
    show [_] = [_]
    simp only [e]
  | w :: w2 :: r, p => by
    have ih := cols_line (w2 :: r) (p ++ w ++ [32])
    have el : (p ++ w ++ [32]).length = p.length + w.length + 1 := by simp; omega
    have eb : p ++ w ++ [32] ++ join (w2 :: r) [32] = p ++ w ++ (32 :: join (w2 :: r) [32]) := by simp
    have ea : p ++ join (w :: w2 :: r) [32] = p ++ w ++ (32 :: join (w2 :: r) [32]) := by rw [join_two]; simp
    rw [el, eb] at ih
    rw [ea]
    have e := word_at p w (32 :: join (w2 :: r) [32])
    show (wordB _ _, _) :: wordsC _ (posW (p.length + w.length + 1) (w2 :: r)) = _ :: colsW (p.length + w.length + 1) (w2 :: r)
    rw [ih, e]
theorem lineWs_join (ws : List (List UInt8)) (h : ∀ w ∈ ws, wordOk w) : lineWs (join ws [32]) = colsW 0 ws := by
  have h1 := words_line ws [] h
  have h2 := cols_line ws []
  unfold lineWs lineW
  rw [strB_data]
  simp only [List.nil_append, List.length_nil] at h1 h2
  rw [h1, h2]
theorem join_no10 : ∀ (ws : List (List UInt8)), (∀ w ∈ ws, wordOk w) → (10 : UInt8) ∉ join ws [32]
  | [], _ => by rw [join_nil]; simp
  | [w], h => by rw [join_one]; exact fun hm => ((h w (by simp)).2 10 hm).2 rfl
  | w :: w2 :: r, h => by
    have ih := join_no10 (w2 :: r) (fun x hx => h x (by simp only [List.mem_cons] at hx ⊢; exact .inr hx))
    rw [join_two]
    intro hm
    simp only [List.mem_append, List.mem_singleton] at hm
    rcases hm with (hm | hm) | hm
    · exact ((h w (by simp)).2 10 hm).2 rfl
    · exact absurd hm (by decide)
    · exact ih hm

/-! ### the words of a joint -/
def headT (j : Jo) : List (List UInt8) := [[106, 111, 105, 110, 116], j.nm.data.toList, [116, 104, 105, 99, 107], itoa j.thick, [122, 111, 110, 101], itoa j.zone]
def faceT (p : ByteArray × Fc) : List (List UInt8) := [[102, 97, 99, 101], p.1.data.toList, itoa p.2.fx, itoa p.2.fz, itoa p.2.tx, itoa p.2.tz]
def faceLn (p : ByteArray × Fc) : List UInt8 := join (faceT p) [32] ++ [10]
def printL (j : Jo) : List UInt8 := join (headT j) [32] ++ [10] ++ (j.fs.map faceLn).flatten
theorem ch_ok {i : Nat} {b : UInt8} (h : chB i b.toNat = true) : blankB b = false ∧ b ≠ 10 := by
  have hb : b.toNat ≠ 32 ∧ b.toNat ≠ 9 ∧ b.toNat ≠ 10 := by
    unfold chB letterB at h
    simp only [Bool.or_eq_true, Bool.and_eq_true, decide_eq_true_eq] at h
    omega
  refine ⟨?_, fun e => hb.2.2 (by rw [e]; rfl)⟩
  cases hk : blankB b with
  | false => rfl
  | true => rcases (blank_iff b).1 hk with e | e <;> omega
theorem name_ok {s : ByteArray} (h : nameB s = true) : wordOk s.data.toList := by
  unfold nameB at h
  simp only [Bool.and_eq_true, decide_eq_true_eq] at h
  have hz : s.data.toList.length = s.size := by rw [Array.length_toList]; rfl
  refine ⟨fun e => by rw [e] at hz; simp at hz; omega, fun b hb => ?_⟩
  obtain ⟨k, hk, rfl⟩ := List.getElem_of_mem hb
  exact ch_ok ((allB_iff _ 0).1 h.1.1 k hk)
theorem itoa_ok (v : Int) : wordOk (itoa v) := by
  refine ⟨fun e => ?_, fun b hb => ?_⟩
  · have h := itoa_body v
    rw [e] at h
    exact (dec_digits v.natAbs).2.2.1 h.symm
  · rcases itoa_chars v b hb with rfl | hd
    · exact ⟨rfl, by decide⟩
    · have hd' : 48 ≤ b.toNat ∧ b.toNat ≤ 57 := by unfold digB at hd; exact of_decide_eq_true hd
      refine ⟨?_, fun e => by rw [e] at hd'; exact absurd hd'.1 (by decide)⟩
      cases hk : blankB b with
      | false => rfl
      | true => rcases (blank_iff b).1 hk with e | e <;> omega
theorem headT_ok {j : Jo} (h : nameB j.nm = true) : ∀ w ∈ headT j, wordOk w := by
  intro w hw
  unfold headT at hw
  simp only [List.mem_cons, List.not_mem_nil, or_false] at hw
  rcases hw with rfl | rfl | rfl | rfl | rfl | rfl
  · exact ⟨by decide, by decide⟩
  · exact name_ok h
  · exact ⟨by decide, by decide⟩
  · exact itoa_ok _
  · exact ⟨by decide, by decide⟩
  · exact itoa_ok _
theorem faceT_ok {p : ByteArray × Fc} (h : nameB p.1 = true) : ∀ w ∈ faceT p, wordOk w := by
  intro w hw
  unfold faceT at hw
  simp only [List.mem_cons, List.not_mem_nil, or_false] at hw
  rcases hw with rfl | rfl | rfl | rfl | rfl | rfl
  · exact ⟨by decide, by decide⟩
  · exact name_ok h
  all_goals exact itoa_ok _
theorem linesR_faces : ∀ (fs : List (ByteArray × Fc)), (∀ p ∈ fs, nameB p.1 = true) → linesR (fs.map faceLn).flatten = fs.map (fun p => join (faceT p) [32])
  | [], _ => linesR_nil
  | p :: r, h => by
    have ih := linesR_faces r (fun q hq => h q (by simp [hq]))
    rw [List.map_cons, List.flatten_cons, show faceLn p ++ (r.map faceLn).flatten = join (faceT p) [32] ++ 10 :: (r.map faceLn).flatten by simp [faceLn], linesR_hit _ _ (join_no10 _ (faceT_ok (h p (by simp)))), ih]
    rfl
theorem linesR_print {j : Jo} (h : nameB j.nm = true) (hf : ∀ p ∈ j.fs, nameB p.1 = true) : linesR (printL j) = join (headT j) [32] :: j.fs.map (fun p => join (faceT p) [32]) := by
  unfold printL
  rw [show join (headT j) [32] ++ [10] ++ (j.fs.map faceLn).flatten = join (headT j) [32] ++ 10 :: (j.fs.map faceLn).flatten by simp, linesR_hit _ _ (join_no10 _ (headT_ok h)), linesR_faces _ hf]

/-! ### read back -/
theorem num_back {v : Int} (h : -1000000 ≤ v ∧ v ≤ 1000000) : numL 9 (itoa v) = some v := numL_itoa 9 v (itoa_body_le 8 v (by omega))
theorem numW_back {v : Int} (h : -1000000 ≤ v ∧ v ≤ 1000000) : numW (strB (itoa v)) = v := by unfold numW; rw [strB_data, num_back h]; rfl
theorem formE_num {c : UInt8} (hc : c.toNat = 57) {v : Int} (h : -1000000 ≤ v ∧ v ≤ 1000000) : formE c (strB (itoa v)) = 0 := by
  unfold formE
  rw [if_neg (by omega), if_neg (by omega), if_neg (by omega), if_pos hc, strB_data, num_back h, if_neg (by simp)]
theorem formE_name {c : UInt8} (hc : c.toNat = 110) {s : ByteArray} (h : nameB s = true) : formE c s = 0 := by
  unfold formE
  rw [if_pos hc, if_pos h]
theorem wi_iff {n lo hi : Int} : wi n lo hi = true ↔ lo ≤ n ∧ n ≤ hi := by unfold wi; simp
theorem tl_strB (l : List UInt8) : (strB l).toList = l := by simp [strB, ByteArray.toList_eq]
theorem formE_t : formE (116 : UInt8) (strB [116, 104, 105, 99, 107]) = 0 := by unfold formE; rw [if_neg (by decide), if_pos (by decide), if_pos (tl_strB _)]
theorem formE_z : formE (122 : UInt8) (strB [122, 111, 110, 101]) = 0 := by unfold formE; rw [if_neg (by decide), if_neg (by decide), if_pos (by decide), if_pos (tl_strB _)]
theorem formP_step {L : ByteArray} {ws : List (ByteArray × Int)} {k : Nat} (h : k < L.size) (h2 : k < ws.length) {l : UInt8} {a : ByteArray} (hl : L[k] = l) (ha : ws[k].1 = a) (e : formE l a = 0) : formP L ws k = formP L ws (k + 1) := formP_go h h2 (by rw [hl, ha]; exact e)
theorem form_six {L : ByteArray} {l0 l1 l2 l3 l4 l5 : UInt8} (hL : L = ⟨#[l0, l1, l2, l3, l4, l5]⟩) {c0 c1 c2 c3 c4 c5 : Int} {a0 a1 a2 a3 a4 a5 : ByteArray} (e1 : formE l1 a1 = 0) (e2 : formE l2 a2 = 0) (e3 : formE l3 a3 = 0) (e4 : formE l4 a4 = 0) (e5 : formE l5 a5 = 0) :
    formP L [(a0, c0), (a1, c1), (a2, c2), (a3, c3), (a4, c4), (a5, c5)] 1 = (0, 0) := by
  subst hL
  have hz : (⟨#[l0, l1, l2, l3, l4, l5]⟩ : ByteArray).size = 6 := rfl
  have hw : [(a0, c0), (a1, c1), (a2, c2), (a3, c3), (a4, c4), (a5, c5)].length = 6 := rfl
  obtain ⟨W, hW⟩ : ∃ W, W = [(a0, c0), (a1, c1), (a2, c2), (a3, c3), (a4, c4), (a5, c5)] := ⟨_, rfl⟩
  rw [← hW] at hw ⊢
  rw [formP_step (k := 1) (by omega) (by omega) (l := l1) (a := a1) rfl (by subst hW; rfl) e1, formP_step (k := 2) (by omega) (by omega) (l := l2) (a := a2) rfl (by subst hW; rfl) e2, formP_step (k := 3) (by omega) (by omega) (l := l3) (a := a3) rfl (by subst hW; rfl) e3,
    formP_step (k := 4) (by omega) (by omega) (l := l4) (a := a4) rfl (by subst hW; rfl) e4, formP_step (k := 5) (by omega) (by omega) (l := l5) (a := a5) rfl (by subst hW; rfl) e5, formP_end (by omega), if_neg (by omega)]
theorem head_ws {c0 c1 c2 c3 c4 c5 : Int} {a0 nm a2 a3 a4 a5 : ByteArray} {th zo : Int} (h0 : a0.toList = [106, 111, 105, 110, 116]) (e1 : formE 110 nm = 0) (e2 : formE 116 a2 = 0) (e3 : formE 57 a3 = 0) (e4 : formE 122 a4 = 0) (e5 : formE 57 a5 = 0) (n3 : numW a3 = th) (n5 : numW a5 = zo) (h1 : wi th 1 20000 = true) (h2 : wi zo 0 20000 = true) :
    headP [(a0, c0), (nm, c1), (a2, c2), (a3, c3), (a4, c4), (a5, c5)] = ((nm, th, zo), 0, 0) := by
  have f1 := form_six (L := headL) (a0 := a0) (c0 := c0) (c1 := c1) (c2 := c2) (c3 := c3) (c4 := c4) (c5 := c5) rfl e1 e2 e3 e4 e5
  have w0 : wordT [(a0, c0), (nm, c1), (a2, c2), (a3, c3), (a4, c4), (a5, c5)] 0 = a0 := rfl
  have w1 : wordT [(a0, c0), (nm, c1), (a2, c2), (a3, c3), (a4, c4), (a5, c5)] 1 = nm := rfl
  have m3 : numT [(a0, c0), (nm, c1), (a2, c2), (a3, c3), (a4, c4), (a5, c5)] 3 = th := n3
  have m5 : numT [(a0, c0), (nm, c1), (a2, c2), (a3, c3), (a4, c4), (a5, c5)] 5 = zo := n5
  unfold headP
  rw [w0, if_neg (fun e => e h0), f1, if_neg (fun e => e rfl), m3, m5, if_neg (by rw [h1]; simp), if_neg (by rw [h2]; simp), w1]
theorem head_back {j : Jo} (h : nameB j.nm = true) (h1 : wi j.thick 1 20000 = true) (h2 : wi j.zone 0 20000 = true) : headP (colsW 0 (headT j)) = ((j.nm, j.thick, j.zone), 0, 0) := by
  have b1 := wi_iff.1 h1
  have b2 := wi_iff.1 h2
  exact head_ws (a0 := strB [106, 111, 105, 110, 116]) (nm := j.nm) (a2 := strB [116, 104, 105, 99, 107]) (a3 := strB (itoa j.thick)) (a4 := strB [122, 111, 110, 101]) (a5 := strB (itoa j.zone)) (tl_strB _) (formE_name rfl h) formE_t (formE_num rfl (by omega)) formE_z (formE_num rfl (by omega)) (numW_back (by omega)) (numW_back (by omega)) h1 h2
theorem face_ws {j : Jo} {c0 c1 c2 c3 c4 c5 : Int} {a0 nm a2 a3 a4 a5 : ByteArray} {fx fz tx tz : Int} (h0 : a0.toList = [102, 97, 99, 101]) (e1 : formE 110 nm = 0) (e2 : formE 57 a2 = 0) (e3 : formE 57 a3 = 0) (e4 : formE 57 a4 = 0) (e5 : formE 57 a5 = 0) (n2 : numW a2 = fx) (n3 : numW a3 = fz) (n4 : numW a4 = tx) (n5 : numW a5 = tz)
    (hl : ¬ j.fs.length = 12) (ha : ¬ j.fs.any (fun p => sameB p.1 nm) = true) (r1 : wi fx (-20000) 20000 = true) (r3 : wi fz 0 j.thick = true) (r2 : wi tx (-20000) 20000 = true) (r4 : wi tz 0 j.thick = true) (hz : ¬ (fx = tx ∧ fz = tz)) :
    faceP j [(a0, c0), (nm, c1), (a2, c2), (a3, c3), (a4, c4), (a5, c5)] = (some (nm, ⟨fx, fz, tx, tz⟩), 0, 0) := by
  obtain ⟨W, hW⟩ : ∃ W, W = [(a0, c0), (nm, c1), (a2, c2), (a3, c3), (a4, c4), (a5, c5)] := ⟨_, rfl⟩
  have f1 : formP faceL W 1 = (0, 0) := by rw [hW]; exact form_six (L := faceL) rfl e1 e2 e3 e4 e5
  have w0 : wordT W 0 = a0 := by rw [hW]; rfl
  have w1 : wordT W 1 = nm := by rw [hW]; rfl
  have m2 : numT W 2 = fx := by rw [hW]; exact n2
  have m3 : numT W 3 = fz := by rw [hW]; exact n3
  have m4 : numT W 4 = tx := by rw [hW]; exact n4
  have m5 : numT W 5 = tz := by rw [hW]; exact n5
  rw [← hW]
  clear hW
  have k2 : rgK j.thick W 2 = true := by unfold rgK; rw [if_pos rfl, m2]; exact r1
  have k3 : rgK j.thick W 3 = true := by unfold rgK; rw [if_neg (by decide), m3]; exact r3
  have k4 : rgK j.thick W 4 = true := by unfold rgK; rw [if_pos rfl, m4]; exact r2
  have k5 : rgK j.thick W 5 = true := by unfold rgK; rw [if_neg (by decide), m5]; exact r4
  unfold faceP
  rw [w0, if_neg (fun e => e h0), f1, if_neg (fun e => e rfl), if_neg hl, w1, if_neg ha, k2, if_neg (by simp), k3, if_neg (by simp), k4, if_neg (by simp), k5, if_neg (by simp), m2, m3, m4, m5, if_neg hz]
  unfold fcOf
  rw [m2, m3, m4, m5]
theorem face_back {j : Jo} {p : ByteArray × Fc} (h : faceE j.fs p.1 p.2 j.thick = 0) (ht : j.thick ≤ 20000) (hl : ¬ j.fs.length = 12) : faceP j (colsW 0 (faceT p)) = (some p, 0, 0) := by
  obtain ⟨nm, fx, fz, tx, tz⟩ := p
  unfold faceE at h
  simp only at h
  split at h
  · cases h
  rename_i hn
  split at h
  · cases h
  rename_i ha
  split at h
  · cases h
  rename_i hr
  split at h
  · cases h
  rename_i hz
  have hn' : nameB nm = true := by simpa using hn
  simp only [Bool.or_eq_true, Bool.not_eq_true', not_or, Bool.not_eq_false] at hr
  obtain ⟨⟨⟨r1, r2⟩, r3⟩, r4⟩ := hr
  have b1 := wi_iff.1 r1
  have b2 := wi_iff.1 r2
  have b3 := wi_iff.1 r3
  have b4 := wi_iff.1 r4
  exact face_ws (a0 := strB [102, 97, 99, 101]) (nm := nm) (a2 := strB (itoa fx)) (a3 := strB (itoa fz)) (a4 := strB (itoa tx)) (a5 := strB (itoa tz)) (tl_strB _) (formE_name rfl hn') (formE_num rfl (by omega)) (formE_num rfl (by omega)) (formE_num rfl (by omega)) (formE_num rfl (by omega)) (numW_back (by omega)) (numW_back (by omega)) (numW_back (by omega)) (numW_back (by omega)) hl ha r1 r3 r2 r4 hz
theorem facesE_ok {thick : Int} : ∀ (l : List (ByteArray × Fc)) (i : Nat) (before : List (ByteArray × Fc)), (facesE thick i before l).2 = 0 → ∀ p ∈ l, nameB p.1 = true
  | [], _, _, _, p, hp => by cases hp
  | q :: l, i, before, h, p, hp => by
    unfold facesE at h
    split at h
    · rename_i he
      rcases List.mem_cons.1 hp with rfl | hp
      · unfold faceE at he
        split at he
        · cases he
        · rename_i hn; simpa using hn
      · exact facesE_ok l _ _ h p hp
    · rename_i he; exact absurd h he
theorem faces_back {nm : ByteArray} {thick zone : Int} (ht : thick ≤ 20000) : ∀ (l : List (ByteArray × Fc)) (i k : Nat) (before : List (ByteArray × Fc)), (facesE thick i before l).2 = 0 → before.length + l.length ≤ 12 →
    parseL k (some ⟨nm, thick, zone, before⟩) (l.map (fun p => join (faceT p) [32])) = (⟨nm, thick, zone, before ++ l⟩, (0, 0), 0)
  | [], _, k, before, _, _ => by rw [List.append_nil]; rfl
  | p :: l, i, k, before, h, hl => by
    have hn := facesE_ok _ _ _ h p (by simp)
    unfold facesE at h
    split at h
    · rename_i he
      have hw := lineWs_join (faceT p) (faceT_ok hn)
      have hf := face_back (j := ⟨nm, thick, zone, before⟩) (p := p) he ht (by simp only [List.length_cons] at hl; simp only; omega)
      have e2 : stepP (some ⟨nm, thick, zone, before⟩) (lineWs (join (faceT p) [32])) = (some ⟨nm, thick, zone, before ++ [p]⟩, 0, 0) := by
        rw [hw]
        unfold stepP
        simp only [hf]
        rfl
      rw [List.map_cons, parseL_go (by rw [hw]; exact fun e => by cases e) (by rw [e2]), e2]
      rw [faces_back ht l (i + 1) (k + 1) (before ++ [p]) h (by simp only [List.length_append, List.length_cons, List.length_nil] at hl ⊢; omega)]
      simp
    · rename_i he; exact absurd h he
theorem parse_print {j : Jo} (h : (jointE j).2 = 0) : parseL 0 none (linesR (printL j)) = (j, (0, 0), 0) := by
  unfold jointE at h
  split at h
  · cases h
  rename_i hn
  split at h
  · cases h
  rename_i hr
  split at h
  · cases h
  rename_i hl
  have hn' : nameB j.nm = true := by simpa using hn
  simp only [Bool.or_eq_true, Bool.not_eq_true', not_or, Bool.not_eq_false] at hr
  have hf := facesE_ok _ _ _ h
  rw [linesR_print hn' hf]
  have hw := lineWs_join (headT j) (headT_ok hn')
  have hb := head_back hn' hr.1 hr.2
  have e2 : stepP none (lineWs (join (headT j) [32])) = (some ⟨j.nm, j.thick, j.zone, []⟩, 0, 0) := by
    rw [hw]; unfold stepP; simp only [hb]
  rw [parseL_go (by rw [hw]; exact fun e => by cases e) (by rw [e2]), e2]
  have ht := (wi_iff.1 hr.1).2
  rw [faces_back ht j.fs 0 1 [] h (by simp; omega)]
  rfl
theorem itoa_le {v : Int} (h : -1000000 ≤ v ∧ v ≤ 1000000) : (itoa v).length ≤ 20 := itoa_size v (by omega) (by omega)
end Go.Proofs.YtaekcfancfoccaaGreatDoor
