/- Contract: the error of scans. -/
import Derived.Test.YtjimdnmdnjhnjaaGreatDoorZgFaD
namespace Go.Proofs.YtjimdnmdnjhnjaaGreatDoor
open Go.RowKit

/-- A scan, and where its data lie. -/
structure Sc where
  row : Int
  col : Int
  rows : Int
  cols : Int
  data : List Int
  dA : Option Addr
  dcap : Nat
def intsC (l : List Int) : List Value := l.map (Value.int .i64)
abbrev scC (s : Sc) : List Value := [.int .i64 s.row, .int .i64 s.col, .int .i64 s.rows, .int .i64 s.cols, .slice s.dA s.data.length s.dcap]
def scsC (l : List Sc) : List Value := l.flatMap scC
theorem scsC_get : ∀ (l : List Sc) (k : Nat) (s : Sc), l[k]? = some s →
    (scsC l)[k * 5]? = some (.int .i64 s.row) ∧ (scsC l)[k * 5 + 1]? = some (.int .i64 s.col) ∧ (scsC l)[k * 5 + 2]? = some (.int .i64 s.rows) ∧ (scsC l)[k * 5 + 3]? = some (.int .i64 s.cols) ∧ (scsC l)[k * 5 + 4]? = some (.slice s.dA s.data.length s.dcap)
  | [], k, p, h => by simp at h
  | q :: l, 0, p, h => by obtain rfl : q = p := by simpa using h
                          exact ⟨rfl, rfl, rfl, rfl, rfl⟩
  | q :: l, k + 1, p, h => by
    have ih := scsC_get l k p (by simpa using h)
    have e : ∀ j, (scsC (q :: l))[(k + 1) * 5 + j]? = (scsC l)[k * 5 + j]? := fun j => by
      rw [show (k + 1) * 5 + j = (k * 5 + j) + 5 by omega]; rfl
    exact ⟨(e 0).trans ih.1, (e 1).trans ih.2.1, (e 2).trans ih.2.2.1, (e 3).trans ih.2.2.2.1, (e 4).trans ih.2.2.2.2⟩
theorem scCells {w : World} {B : Nat} {A : Option Addr} {l : List Sc} (h : Row w B 5 A l.length (scsC l)) {k : Nat} (hk : k < l.length) :
    ∃ g o, A = some ⟨g, o, none⟩ ∧ g < B ∧ w.cell? ⟨g, o + k * 5, none⟩ = some (.int .i64 l[k].row) ∧ w.cell? ⟨g, o + k * 5 + 1, none⟩ = some (.int .i64 l[k].col) ∧ w.cell? ⟨g, o + k * 5 + 2, none⟩ = some (.int .i64 l[k].rows) ∧
      w.cell? ⟨g, o + k * 5 + 3, none⟩ = some (.int .i64 l[k].cols) ∧ w.cell? ⟨g, o + k * 5 + 4, none⟩ = some (.slice l[k].dA l[k].data.length l[k].dcap) := by
  obtain ⟨g, o, hA, hb, hc⟩ := h.2 (by omega)
  obtain ⟨g0, g1, g2, g3, g4⟩ := scsC_get l k l[k] (List.getElem?_eq_getElem hk)
  exact ⟨g, o, hA, hb, hc _ _ g0, hc _ _ g1, hc _ _ g2, hc _ _ g3, hc _ _ g4⟩
theorem intCell {w : World} {B : Nat} {A : Option Addr} {l : List Int} (h : Row w B 1 A l.length (intsC l)) {k : Nat} (hk : k < l.length) :
    ∃ g o, A = some ⟨g, o, none⟩ ∧ g < B ∧ w.cell? ⟨g, o + k, none⟩ = some (.int .i64 l[k]) := by
  obtain ⟨g, o, hA, hb, hc⟩ := h.2 (by omega)
  exact ⟨g, o, hA, hb, hc _ _ (by simp [intsC, hk])⟩

/-- The error of a scan; of scans, with a number. -/
def scanE (s : Sc) : Int :=
  if !(wi s.row (-100000) 100000) || !(wi s.col (-100000) 100000) || !(wi s.rows 1 24) || !(wi s.cols 1 24) then 2
  else if (s.data.length : Int) ≠ s.rows * s.cols then 10 else if s.data.all (fun n => wi n 0 1000000000) then 0 else 2
def scansE' : Int → List Sc → Int × Int
  | _, [] => (0, 0)
  | i, s :: l => if scanE s = 0 then scansE' (i + 1) l else (i, scanE s)
def scansE (l : List Sc) : Int × Int := if 6 < l.length then (0, 8) else scansE' 0 l
theorem scansE'_cons (i : Int) (s : Sc) (l : List Sc) : scansE' i (s :: l) = if scanE s = 0 then scansE' (i + 1) l else (i, scanE s) := rfl
theorem scansE'_skip : ∀ (l : List Sc) (k : Nat) (i : Int), (∀ j (h : j < l.length), j < k → scanE l[j] = 0) → k ≤ l.length → scansE' i l = scansE' (i + k) (l.drop k)
  | l, 0, i, _, _ => by simp
  | [], k + 1, i, _, h => by simp at h
  | s :: l, k + 1, i, h, hk => by
    have h0 : scanE s = 0 := h 0 (by simp) (by omega)
    rw [scansE'_cons, if_pos h0, List.drop_succ_cons, scansE'_skip l k (i + 1) (fun j hj hjk => by have := h (j + 1) (by simpa using hj) (by omega); simpa using this) (by simpa using hk)]
    congr 1; omega
theorem scansE_at {l : List Sc} {k : Nat} (hl : l.length ≤ 6) (hk : k < l.length) (h : ∀ j (h : j < l.length), j < k → scanE l[j] = 0) (he : scanE l[k] ≠ 0) : scansE l = ((k : Int), scanE l[k]) := by
  unfold scansE
  rw [if_neg (by omega), scansE'_skip l k 0 h (by omega), List.drop_eq_getElem_cons hk, scansE'_cons, if_neg he]; simp
theorem scansE_end {l : List Sc} (hl : l.length ≤ 6) (h : ∀ j (h : j < l.length), scanE l[j] = 0) : scansE l = (0, 0) := by
  unfold scansE
  rw [if_neg (by omega), scansE'_skip l l.length 0 (fun j hj _ => h j hj) (Nat.le_refl _), List.drop_length]; rfl
theorem scanE_data {s : Sc} (h1 : wi s.row (-100000) 100000 = true) (h2 : wi s.col (-100000) 100000 = true) (h3 : wi s.rows 1 24 = true) (h4 : wi s.cols 1 24 = true) (h5 : (s.data.length : Int) = s.rows * s.cols) :
    scanE s = if s.data.all (fun n => wi n 0 1000000000) then 0 else 2 := by
  unfold scanE; rw [h1, h2, h3, h4, h5]; simp

/-- The scans that a slice holds. -/
structure ScOk (l : List Sc) (A : Option Addr) (B : Nat) (w : World) : Prop where
  len : l.length ≤ 1000000000
  row : Row w B 5 A l.length (scsC l)
  size : ∀ s ∈ l, s.data.length ≤ 1000000000
  data : ∀ s ∈ l, Row w B 1 s.dA s.data.length (intsC s.data)
theorem ScOk.below {l : List Sc} {A : Option Addr} {B C : Nat} {w w' : World} (h : ScOk l A B w) (hb : Below C w w') (hC : B ≤ C) : ScOk l A B w' :=
  ⟨h.len, h.row.below hb hC, h.size, fun s hs => (h.data s hs).below hb hC⟩

set_option maxRecDepth 100000 in
set_option maxHeartbeats 1000000 in
theorem checkScans_any (l : List Sc) (A : Option Addr) (c B : Nat) (w : World) (hl : ScOk l A B w) (hB : B ≤ w.heap.size) :
    Calls Tryz.prog 84 #[.slice A l.length c] w fun e w' => e = .returned (.tuple #[.int .i64 (scansE l).1, .int .i64 (scansE l).2]) ∧ Below w.heap.size w w' := by
  have hn := hl.len
  by_cases h6 : 6 < l.length
  · have HE : Hid (scansE l = (0, 8)) := Lib.hid (by unfold scansE; rw [if_pos h6])
    have h6' : decide ((6 : Int) < (l.length : Int)) = true := by simp; omega
    go_enter Tryz.func84, Tryz.ntmps84
    go_wp2
    go_ret2
    exact ⟨by rw [HE.out]; rfl, (by repeat (first | (with_reducible exact Below.refl _ _) | (with_reducible assumption) | ((with_reducible refine Below.setCell ?_ ?_ _); rotate_left; · (first | exact Nat.le_refl _ | (simp; done) | (simp; omega) | omega)) | ((with_reducible refine Below.alloc ?_ ?_ _); rotate_left; · (first | exact Nat.le_refl _ | (simp; done) | (simp; omega) | omega)) | (with_reducible apply Below.drew) | (with_reducible apply below_drewN') | (refine Below.trans ?_ (Below.mono (by assumption) (by first | exact Nat.le_refl _ | (simp; done) | (simp; omega) | omega))) | exact Below.refl _ _ | assumption))⟩
  · have h6' : l.length ≤ 6 := by omega
    clear h6
    go_enter Tryz.func84, Tryz.ntmps84
    go_wp2
    go_loopw [14] (fun i wr => ∃ k : Nat, k ≤ l.length ∧ i = .int .i64 k ∧ Hid (∀ j (h : j < l.length), j < k → scanE l[j] = 0) ∧ Below w.heap.size w wr) (fun i _ => l.length - (intOf i).toNat)
    case atStart => exact ⟨0, Nat.zero_le _, rfl, Lib.hid (fun j _ hj => absurd hj (by omega)), Below.refl _ _⟩
    case round =>
      obtain ⟨k, hk, rfl, HI, hBB⟩ := hrel
      have hl' := hl.below hBB hB
      by_cases hlt : k < l.length
      · obtain ⟨g, o, hA, hg, c0, c1, c2, c3, c4⟩ := scCells hl'.row hlt
        have hdat := hl'.data l[k] (List.getElem_mem hlt)
        have hds := hl'.size l[k] (List.getElem_mem hlt)
        have HAT : Hid (scanE l[k] ≠ 0 → scansE l = ((k : Int), scanE l[k])) := Lib.hid (fun he => scansE_at h6' hlt HI.out he)
        have HNX : Hid (scanE l[k] = 0 → ∀ j (h : j < l.length), j < k + 1 → scanE l[j] = 0) := Lib.hid (fun he j hj hjk => by
          by_cases hjk' : j = k
          · subst hjk'; exact he
          · exact HI.out j hj (by omega))
        generalize l[k] = s at *
        subst hA
        have hzb := Below.size hBB
        have hS0 : Hid ((wi s.row (-100000) 100000 = false ∨ (wi s.row (-100000) 100000 = true ∧ wi s.col (-100000) 100000 = false) ∨ (wi s.row (-100000) 100000 = true ∧ wi s.col (-100000) 100000 = true ∧ wi s.rows 1 24 = false) ∨
          (wi s.row (-100000) 100000 = true ∧ wi s.col (-100000) 100000 = true ∧ wi s.rows 1 24 = true ∧ wi s.cols 1 24 = false)) ∧ scanE s = 2 ∨ (wi s.row (-100000) 100000 = true ∧ wi s.col (-100000) 100000 = true ∧ wi s.rows 1 24 = true ∧ wi s.cols 1 24 = true)) := Lib.hid (by
            unfold scanE
            cases wi s.row (-100000) 100000 <;> cases wi s.col (-100000) 100000 <;> cases wi s.rows 1 24 <;> cases wi s.cols 1 24 <;> simp)
        rcases hS0.out with ⟨hq, he⟩ | ⟨q1, q2, q3, q4⟩
        · have HE : Hid (scansE l = ((k : Int), 2)) := Lib.hid (by rw [HAT.out (by rw [he]; decide), he])
          clear hS0 he HNX HAT
          rcases hq with q1 | ⟨q1, q2⟩ | ⟨q1, q2, q3⟩ | ⟨q1, q2, q3, q4⟩
          all_goals
            go_wp2_with (first
              | (go_at_call 66; refine (small_any _ _ (by omega) (by omega) _).mono ?_; rintro e w1 ⟨rfl, rfl⟩)
              | (go_at_call 38; refine (within_any _ _ _ _).mono ?_; rintro e w1 ⟨rfl, rfl⟩))
            go_ret2
            exact ⟨by rw [HE.out]; rfl, (by repeat (first | (with_reducible exact Below.refl _ _) | (with_reducible assumption) | ((with_reducible refine Below.setCell ?_ ?_ _); rotate_left; · (first | exact Nat.le_refl _ | (simp; done) | (simp; omega) | omega)) | ((with_reducible refine Below.alloc ?_ ?_ _); rotate_left; · (first | exact Nat.le_refl _ | (simp; done) | (simp; omega) | omega)) | (with_reducible apply Below.drew) | (with_reducible apply below_drewN') | (refine Below.trans ?_ (Below.mono (by assumption) (by first | exact Nat.le_refl _ | (simp; done) | (simp; omega) | omega))) | exact Below.refl _ _ | assumption))⟩
        · clear hS0
          have p3 : 1 ≤ s.rows ∧ s.rows ≤ 24 := by simpa [wi] using q3
          have p4 : 1 ≤ s.cols ∧ s.cols ≤ 24 := by simpa [wi] using q4
          have hm := mul_bd0 (show 0 ≤ s.rows by omega) p3.2 (show 0 ≤ s.cols by omega) p4.2
          by_cases hsh : (s.data.length : Int) = s.rows * s.cols
          · have hsh' : ((s.data.length : Int) != s.rows * s.cols) = false := by simpa using hsh
            have HD : Hid (scanE s = if s.data.all (fun n => wi n 0 1000000000) then 0 else 2) := Lib.hid (scanE_data q1 q2 q3 q4 hsh)
            clear hsh
            go_wp2_with (first
              | (go_at_call 66; refine (small_any _ _ (by omega) (by omega) _).mono ?_; rintro e w1 ⟨rfl, rfl⟩)
              | (go_at_call 38; refine (within_any _ _ _ _).mono ?_; rintro e w1 ⟨rfl, rfl⟩))
            go_loopw [57] (fun j w2 => ∃ m : Nat, m ≤ s.data.length ∧ j = .int .i64 m ∧ Hid (∀ i (h : i < s.data.length), i < m → wi s.data[i] 0 1000000000 = true) ∧ Below wr.heap.size wr w2) (fun j _ => s.data.length - (intOf j).toNat)
            case atStart => exact ⟨0, Nat.zero_le _, rfl, Lib.hid (fun j _ hj => absurd hj (by omega)), (by repeat (first | (with_reducible exact Below.refl _ _) | (with_reducible assumption) | ((with_reducible refine Below.setCell ?_ ?_ _); rotate_left; · (first | exact Nat.le_refl _ | (simp; done) | (simp; omega) | omega)) | ((with_reducible refine Below.alloc ?_ ?_ _); rotate_left; · (first | exact Nat.le_refl _ | (simp; done) | (simp; omega) | omega)) | (with_reducible apply Below.drew) | (with_reducible apply below_drewN') | (refine Below.trans ?_ (Below.mono (by assumption) (by first | exact Nat.le_refl _ | (simp; done) | (simp; omega) | omega))) | exact Below.refl _ _ | assumption))⟩
            case round =>
              obtain ⟨m, hm', rfl, HJ, hB2⟩ := hrel
              have hdat2 := hdat.below hB2 (by omega)
              by_cases hlt2 : m < s.data.length
              · obtain ⟨g2, o2, hA2, hg2, d0⟩ := intCell hdat2 hlt2
                have HX : Hid (wi s.data[m] 0 1000000000 = false → scanE s = 2) := Lib.hid (fun h => by
                  rw [HD.out, if_neg]
                  intro hall
                  have := List.all_eq_true.1 hall _ (List.getElem_mem hlt2)
                  rw [h] at this; cases this)
                have HY : Hid (wi s.data[m] 0 1000000000 = true → ∀ i (h : i < s.data.length), i < m + 1 → wi s.data[i] 0 1000000000 = true) := Lib.hid (fun h i hi him => by
                  by_cases e : i = m
                  · subst e; exact h
                  · exact HJ.out i hi (by omega))
                generalize s.data[m] = x at *
                rw [hA2]
                cases hx : wi x 0 1000000000
                · have hle : levelE x = 2 := by unfold levelE; rw [hx]; rfl
                  have HE : Hid (scansE l = ((k : Int), 2)) := Lib.hid (by rw [HAT.out (by rw [HX.out hx]; decide), HX.out hx])
                  clear hx HX HY HAT HNX
                  go_wp2_with (go_at_call 68; refine (levelErr_any _ _).mono ?_; rintro e w1 ⟨rfl, rfl⟩)
                  go_ret2
                  exact ⟨by rw [HE.out]; rfl, hBB.trans (hB2.mono hzb)⟩
                · have hle : levelE x = 0 := by unfold levelE; rw [hx]; rfl
                  have HY2 := Lib.hid (HY.out hx)
                  clear hx HX HY HAT HNX
                  go_wp2_with (go_at_call 68; refine (levelErr_any _ _).mono ?_; rintro e w1 ⟨rfl, rfl⟩)
                  refine ⟨⟨m + 1, by omega, by go_num, HY2, hB2⟩, by simp [intOf]; omega⟩
              · obtain rfl : m = s.data.length := by omega
                have HZ : Hid (∀ j (h : j < l.length), j < k + 1 → scanE l[j] = 0) := Lib.hid (HNX.out (by
                  rw [HD.out, if_pos]
                  rw [List.all_eq_true]
                  intro x hx
                  obtain ⟨i, hi, rfl⟩ := List.getElem_of_mem hx
                  exact HJ.out i hi hi))
                clear HNX HAT HJ
                go_wp2
                refine ⟨⟨k + 1, by omega, by go_num, HZ, hBB.trans (hB2.mono hzb)⟩, by simp [intOf]; omega⟩
          · have hsh' : ((s.data.length : Int) != s.rows * s.cols) = true := by simpa using hsh
            have HE : Hid (scansE l = ((k : Int), 10)) := Lib.hid (by
              have : scanE s = 10 := by unfold scanE; rw [q1, q2, q3, q4]; simp [hsh]
              rw [HAT.out (by rw [this]; decide), this])
            clear hsh HNX HAT
            go_wp2_with (first
              | (go_at_call 66; refine (small_any _ _ (by omega) (by omega) _).mono ?_; rintro e w1 ⟨rfl, rfl⟩)
              | (go_at_call 38; refine (within_any _ _ _ _).mono ?_; rintro e w1 ⟨rfl, rfl⟩))
            go_ret2
            exact ⟨by rw [HE.out]; rfl, (by repeat (first | (with_reducible exact Below.refl _ _) | (with_reducible assumption) | ((with_reducible refine Below.setCell ?_ ?_ _); rotate_left; · (first | exact Nat.le_refl _ | (simp; done) | (simp; omega) | omega)) | ((with_reducible refine Below.alloc ?_ ?_ _); rotate_left; · (first | exact Nat.le_refl _ | (simp; done) | (simp; omega) | omega)) | (with_reducible apply Below.drew) | (with_reducible apply below_drewN') | (refine Below.trans ?_ (Below.mono (by assumption) (by first | exact Nat.le_refl _ | (simp; done) | (simp; omega) | omega))) | exact Below.refl _ _ | assumption))⟩
      · obtain rfl : k = l.length := by omega
        have HE : Hid (scansE l = (0, 0)) := Lib.hid (scansE_end h6' (fun j hj => HI.out j hj hj))
        go_wp2
        go_ret2
        exact ⟨by rw [HE.out]; rfl, hBB⟩
end Go.Proofs.YtjimdnmdnjhnjaaGreatDoor
