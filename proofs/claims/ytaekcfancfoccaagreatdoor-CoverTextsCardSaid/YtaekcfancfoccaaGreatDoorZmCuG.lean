/- The tokens of a line as a row, and what cover.form finds (plain law). Contracts: where the numbers of a set-up stand; a number read; the text of a set-up (cover.FormatSetup). cover.form: what it finds in a line, plain law and memory. -/
import Derived.BigRegion
import Derived.Test.YtaekcfancfoccaaGreatDoorZmCuE
import Derived.Test.YtaekcfancfoccaaGreatDoorZmZkCvW
import Derived.Test.YtaekcfancfoccaaGreatDoorZmZkCvM
import Derived.Test.YtaekcfancfoccaaGreatDoorZmZkCvH
import Derived.Test.YtaekcfancfoccaaGreatDoorZmTxA
import Derived.Test.YtaekcfancfoccaaGreatDoorZmTxL
namespace Go.Proofs.YtaekcfancfoccaaGreatDoor
open Go.RowKit Go.Lib

def tknC (line : Int) (l : List (ByteArray × Int)) : List Value := (l.map fun p => [Value.string p.1, .int .i64 line, .int .i64 p.2]).flatten
theorem toksC_eq (s : ByteArray) (line : Int) (O : List (Nat × Nat)) : toksC s line O = tknC line (wordsC s O) := by
  unfold toksC tknC wordsC
  rw [List.map_map]; rfl
theorem tknC_get (line : Int) : ∀ (l : List (ByteArray × Int)) (k : Nat) (r : ByteArray × Int), l[k]? = some r → (tknC line l)[k * 3]? = some (.string r.1) ∧ (tknC line l)[k * 3 + 1]? = some (.int .i64 line) ∧ (tknC line l)[k * 3 + 2]? = some (.int .i64 r.2)
  | [], k, p, h => by simp at h
  | q :: l, 0, p, h => by obtain rfl : q = p := by simpa using h
                          exact ⟨rfl, rfl, rfl⟩
  | q :: l, k + 1, p, h => by
    have ih := tknC_get line l k p (by simpa using h)
    have e : ∀ j, (tknC line (q :: l))[(k + 1) * 3 + j]? = (tknC line l)[k * 3 + j]? := fun j => by
      rw [show (k + 1) * 3 + j = (k * 3 + j) + 3 by omega]; rfl
    exact ⟨(e 0).trans ih.1, (e 1).trans ih.2.1, (e 2).trans ih.2.2⟩

def fieldE (f t : ByteArray) : Int :=
  if f.toList = [110, 97, 109, 101] then (if nameB t then 0 else 4)
  else if f.toList = [35] then (if numL 9 t.data.toList = none then 7 else 0)
  else if f.toList = t.toList then 0 else 7
def fieldP (fs : List ByteArray) (ws : List (ByteArray × Int)) (k : Nat) : Nat × Int :=
  if h : k < fs.length then
    if h2 : k < ws.length then (if fieldE fs[k] ws[k].1 = 0 then fieldP fs ws (k + 1) else (k, fieldE fs[k] ws[k].1))
    else (k, 6)
  else if fs.length < ws.length then (fs.length, 7) else (0, 0)
termination_by fs.length - k
theorem fieldP_out {fs : List ByteArray} {ws : List (ByteArray × Int)} {k : Nat} (h : k < fs.length) (h2 : ¬ k < ws.length) : fieldP fs ws k = (k, 6) := by rw [fieldP, dif_pos h, dif_neg h2]
theorem fieldP_go {fs : List ByteArray} {ws : List (ByteArray × Int)} {k : Nat} (h : k < fs.length) (h2 : k < ws.length) (e : fieldE fs[k] ws[k].1 = 0) : fieldP fs ws k = fieldP fs ws (k + 1) := by rw [fieldP, dif_pos h, dif_pos h2, if_pos e]
theorem fieldP_bad {fs : List ByteArray} {ws : List (ByteArray × Int)} {k : Nat} {n : Int} (h : k < fs.length) (h2 : k < ws.length) (e : fieldE fs[k] ws[k].1 = n) (hn : n ≠ 0) : fieldP fs ws k = (k, n) := by rw [fieldP, dif_pos h, dif_pos h2, e, if_neg hn]
theorem fieldP_end {fs : List ByteArray} {ws : List (ByteArray × Int)} {k : Nat} (h : ¬ k < fs.length) : fieldP fs ws k = if fs.length < ws.length then (fs.length, 7) else (0, 0) := by rw [fieldP, dif_neg h]

def Means (c : UInt8) (f : ByteArray) : Prop := ∀ t : ByteArray, fieldE f t = formE c t

theorem eq_flip (f t : ByteArray) (l : List UInt8) (h : f.toList = l) : (if f.toList = t.toList then (0 : Int) else 7) = if t.toList = l then 0 else 7 := by
  rw [h]; by_cases e : t.toList = l
  · rw [if_pos e.symm, if_pos e]
  · rw [if_neg (fun x => e x.symm), if_neg e]
theorem means_n : Means 110 ⟨#[110, 97, 109, 101]⟩ := fun t => by
  have h : (⟨#[110, 97, 109, 101]⟩ : ByteArray).toList = [110, 97, 109, 101] := ByteArray.toList_eq _
  unfold fieldE formE; rw [if_pos h, if_pos (show (110 : UInt8).toNat = 110 from rfl)]
theorem means_9 : Means 57 ⟨#[35]⟩ := fun t => by
  have h : (⟨#[35]⟩ : ByteArray).toList = [35] := ByteArray.toList_eq _
  unfold fieldE formE
  rw [if_neg (by rw [h]; decide), if_pos h, if_neg (show ¬ (57 : UInt8).toNat = 110 by decide), if_neg (show ¬ (57 : UInt8).toNat = 116 by decide), if_neg (show ¬ (57 : UInt8).toNat = 122 by decide), if_pos (show (57 : UInt8).toNat = 57 from rfl)]
theorem means_t : Means 116 ⟨#[116, 104, 105, 99, 107]⟩ := fun t => by
  have h : (⟨#[116, 104, 105, 99, 107]⟩ : ByteArray).toList = [116, 104, 105, 99, 107] := ByteArray.toList_eq _
  unfold fieldE formE
  rw [if_neg (by rw [h]; decide), if_neg (by rw [h]; decide), if_neg (show ¬ (116 : UInt8).toNat = 110 by decide), if_pos (show (116 : UInt8).toNat = 116 from rfl)]
  exact eq_flip _ _ _ h
theorem means_z : Means 122 ⟨#[122, 111, 110, 101]⟩ := fun t => by
  have h : (⟨#[122, 111, 110, 101]⟩ : ByteArray).toList = [122, 111, 110, 101] := ByteArray.toList_eq _
  unfold fieldE formE
  rw [if_neg (by rw [h]; decide), if_neg (by rw [h]; decide), if_neg (show ¬ (122 : UInt8).toNat = 110 by decide), if_neg (show ¬ (122 : UInt8).toNat = 116 by decide), if_pos (show (122 : UInt8).toNat = 122 from rfl)]
  exact eq_flip _ _ _ h
theorem field_form {L : ByteArray} {fs : List ByteArray} (hl : L.size = fs.length) (hm : ∀ k (h : k < L.size) (h2 : k < fs.length), 1 ≤ k → Means L[k] fs[k]) (ws : List (ByteArray × Int)) : ∀ (n k : Nat), L.size - k = n → 1 ≤ k → fieldP fs ws k = formP L ws k
  | 0, k, hn, h1 => by rw [fieldP_end (by omega), formP_end (by omega), hl]
  | n + 1, k, hn, h1 => by
    have hk : k < L.size := by omega
    have hk2 : k < fs.length := by omega
    by_cases hw : k < ws.length
    · have hM := hm k hk hk2 h1 ws[k].1
      by_cases he : formE L[k] ws[k].1 = 0
      · rw [formP_go hk hw he, fieldP_go hk2 hw (hM.trans he)]
        exact field_form hl hm ws n (k + 1) (by omega) (by omega)
      · rw [formP_bad hk hw rfl he, fieldP_bad hk2 hw hM he]
    · rw [formP_out hk hw, fieldP_out hk2 hw]
end Go.Proofs.YtaekcfancfoccaaGreatDoor

namespace Go.Proofs.YtaekcfancfoccaaGreatDoor
open Go.RowKit Go.Lib

theorem numP_parts {s : ByteArray} {v : Int} (hv : atoiAll s.data.toList = .ok v) :
    numL 9 s.data.toList = (if strB (itoa v) = s ∧ (strB (bodyL s.data.toList)).size ≤ 9 then some v else none) := by
  rw [← numP_eq 9 (by decide)]
  unfold numP
  simp only [hv]
  rw [trim_body, strB_size]
  have he : itoa v = s.data.toList ↔ strB (itoa v) = s := ⟨fun e => by rw [e]; rfl, fun e => by rw [← e, strB_data]⟩
  by_cases h : itoa v = s.data.toList ∧ (bodyL s.data.toList).length ≤ 9
  · rw [if_pos h, if_pos ⟨he.1 h.1, h.2⟩]
  · rw [if_neg h, if_neg (fun h' => h ⟨he.2 h'.1, h'.2⟩)]
set_option maxRecDepth 100000 in
set_option maxHeartbeats 4000000 in
theorem readNumber_any (s : ByteArray) (hs : s.size ≤ 100000) (w : World) (hL : LibW w) : Calls Tryz.prog 52 #[.string s] w fun e w' => ∃ n b, e = .returned (.tuple #[.int .i64 n, .bool b]) ∧ b = (numL 9 s.data.toList).isSome ∧ (∀ v, numL 9 s.data.toList = some v → n = v) ∧ Below w.heap.size w w' := by
  have HL := Lib.hid hL; clear hL
  by_cases ha : ∃ v, atoiAll s.data.toList = .ok v
  · obtain ⟨v, hv⟩ := ha
    have hvb := atoiAll_bounds hv
    have hnum := numP_parts hv
    have HAT := Lib.hid (atoi_ok s (by omega) v hv w)
    obtain ⟨y, hy⟩ : ∃ y, strB (itoa v) = y := ⟨_, rfl⟩
    have HIT : Hid (∀ W', LibW W' → Calls Tryz.prog 33 #[.int .i64 v] W' fun e w' => e = .returned (.string y) ∧ Below W'.heap.size W' w') := Lib.hid fun W' h => by rw [← hy]; exact itoa_any v hvb.1 hvb.2 W' h
    obtain ⟨tr, htr⟩ : ∃ tr, strB (bodyL s.data.toList) = tr := ⟨_, rfl⟩
    have HTR : Hid (∀ W', Calls Tryz.prog 87 #[.string s, .string ⟨#[45]⟩] W' fun e w' => e = .returned (.string tr) ∧ W' = w') := Lib.hid fun W' => by rw [← htr]; exact trim_any s W'
    rw [hy, htr] at hnum
    obtain ⟨o, ho⟩ : ∃ o, numL 9 s.data.toList = o := ⟨_, rfl⟩
    rw [ho] at hnum ⊢
    have hti : ∀ a b : ByteArray, a.toList = b.toList → a = b := fun a b e => by
      rw [toList_data, toList_data] at e
      exact ByteArray.ext (Array.toList_inj.1 e)
    clear ho hy htr hv hvb
    by_cases hyx : y = s
    · have hyl : (y.toList == s.toList) = true := by rw [hyx]; simp
      by_cases h9 : tr.size ≤ 9
      · have h9' : decide ((tr.size : Int) ≤ 9) = true := by rw [decide_eq_true_eq]; omega
        rw [if_pos ⟨hyx, h9⟩] at hnum
        subst hnum
        clear hyx hti
        go_enter Tryz.func52, Tryz.ntmps52
        go_wp2_with (first
          | (go_at_call 86; refine HAT.out.mono ?_; rintro e w4 ⟨rfl, hB4⟩; have HLW := Lib.hid (HL.out.below hB4 (Nat.le_refl _)))
          | (go_at_call 33; refine (HIT.out _ HLW.out).mono ?_; rintro e w5 ⟨rfl, hB5⟩; have hBB := hB4.trans (hB5.mono (Below.size hB4)))
          | (go_at_call 87; refine (HTR.out _).mono ?_; rintro e w6 ⟨rfl, rfl⟩))
        go_ret2
        exact ⟨v, true, rfl, rfl, (fun u hu => by injection hu), hBB⟩
      · have h9' : decide ((tr.size : Int) ≤ 9) = false := by rw [decide_eq_false_iff_not]; omega
        rw [if_neg (fun h => h9 h.2)] at hnum
        subst hnum
        clear hyx hti
        go_enter Tryz.func52, Tryz.ntmps52
        go_wp2_with (first
          | (go_at_call 86; refine HAT.out.mono ?_; rintro e w4 ⟨rfl, hB4⟩; have HLW := Lib.hid (HL.out.below hB4 (Nat.le_refl _)))
          | (go_at_call 33; refine (HIT.out _ HLW.out).mono ?_; rintro e w5 ⟨rfl, hB5⟩; have hBB := hB4.trans (hB5.mono (Below.size hB4)))
          | (go_at_call 87; refine (HTR.out _).mono ?_; rintro e w6 ⟨rfl, rfl⟩))
        go_ret2
        exact ⟨v, false, rfl, rfl, (fun u hu => by cases hu), hBB⟩
    · have hyl : (y.toList == s.toList) = false := beq_eq_false_iff_ne.2 fun e => hyx (hti _ _ e)
      rw [if_neg (fun h => hyx h.1)] at hnum
      subst hnum
      clear hyx hti HTR
      go_enter Tryz.func52, Tryz.ntmps52
      go_wp2_with (first
        | (go_at_call 86; refine HAT.out.mono ?_; rintro e w4 ⟨rfl, hB4⟩; have HLW := Lib.hid (HL.out.below hB4 (Nat.le_refl _)))
        | (go_at_call 33; refine (HIT.out _ HLW.out).mono ?_; rintro e w5 ⟨rfl, hB5⟩; have hBB := hB4.trans (hB5.mono (Below.size hB4))))
      go_ret2
      exact ⟨v, false, rfl, rfl, (fun u hu => by cases hu), hBB⟩
  · have hnum : numL 9 s.data.toList = none := by
      rw [← numP_eq 9 (by decide)]
      unfold numP
      cases h : atoiAll s.data.toList with
      | ok v => exact absurd ⟨v, h⟩ ha
      | «syntax» => rfl
      | range => rfl
    have HAT := Lib.hid (atoi_bad s (by omega) (fun v e => ha ⟨v, e⟩) w HL.out)
    obtain ⟨o, ho⟩ : ∃ o, numL 9 s.data.toList = o := ⟨_, rfl⟩
    rw [ho] at hnum ⊢
    subst hnum
    clear ha ho
    go_enter Tryz.func52, Tryz.ntmps52
    go_wp2_with (go_at_call 86; refine HAT.out.mono ?_; rintro e w4 ⟨n, N, rfl, hB4⟩)
    go_ret2
    exact ⟨n, false, rfl, rfl, (fun u hu => by cases hu), hB4⟩

end Go.Proofs.YtaekcfancfoccaaGreatDoor

namespace Go.Proofs.YtaekcfancfoccaaGreatDoor
open Go.RowKit Go.Lib

def w0 : ByteArray × Int := (⟨#[]⟩, 0)
def nameK (fs : List ByteArray) (line : Int) (ws : List (ByteArray × Int)) : Nat → ByteArray × Int × Int
  | 0 => (⟨#[]⟩, 0, 0)
  | k + 1 => if (fs.getD k ⟨#[]⟩).toList = [110, 97, 109, 101] then ((ws.getD k w0).1, line, (ws.getD k w0).2) else nameK fs line ws k
def hashK (fs : List ByteArray) (ws : List (ByteArray × Int)) : Nat → List (ByteArray × Int)
  | 0 => []
  | k + 1 => if (fs.getD k ⟨#[]⟩).toList = [35] then hashK fs ws k ++ [ws.getD k w0] else hashK fs ws k
def valsK (fs : List ByteArray) (ws : List (ByteArray × Int)) (k : Nat) : List Int := (hashK fs ws k).map fun p => numW p.1
theorem hashK_len (fs : List ByteArray) (ws : List (ByteArray × Int)) : ∀ k, (hashK fs ws k).length ≤ k
  | 0 => Nat.le_refl 0
  | k + 1 => by
    have := hashK_len fs ws k
    unfold hashK
    split
    · rw [List.length_append]; simp; omega
    · omega
theorem getD_of {α : Type} {l : List α} {k : Nat} (h : k < l.length) (d : α) : l.getD k d = l[k] := by rw [List.getD_eq_getElem?_getD, List.getElem?_eq_getElem h]; rfl
theorem tknC_snoc (line : Int) (l : List (ByteArray × Int)) (p : ByteArray × Int) : tknC line (l ++ [p]) = tknC line l ++ [.string p.1, .int .i64 line, .int .i64 p.2] := by simp [tknC]

theorem own_two' {w : World} {b1 b2 e1 e2 s1 s2 n1 n2 : Nat} {v1 v2 : Value} {xs1 xs2 : List Value} (h1 : w.ownsRow b1 e1 s1 v1 n1 xs1) (h2 : w.ownsRow b2 e2 s2 v2 n2 xs2) (hne : e1 ≠ e2) : v1.ownBlock = none ∨ v1.ownBlock ≠ v2.ownBlock := by
  rcases h1.2 with ⟨rfl, _⟩ | ⟨g, cap, cur, rfl, _, hh, _⟩
  · exact .inl rfl
  · right
    rcases h2.2 with ⟨rfl, _⟩ | ⟨g', cap', cur', rfl, _, hh', _⟩
    · simp [Value.ownBlock]
    · intro e
      have e' : g = g' := by simpa [Value.ownBlock] using e
      subst e'
      rw [hh] at hh'
      injection hh' with hh'
      injection hh' with _ ht
      exact hne ht
theorem own_ne' {w : World} {base e size n : Nat} {v : Value} {xs : List Value} (h : w.ownsRow base e size v n xs) {g : Nat} (hg : g < base) : v.ownBlock = none ∨ v.ownBlock ≠ some g := .inr fun e => by have := (h.lt _ e).1; omega
theorem toList_inj {a b : ByteArray} (h : a.toList = b.toList) : a = b := by
  rw [ByteArray.toList_eq, ByteArray.toList_eq] at h
  exact ByteArray.ext (Array.ext' h)
structure FoS (fs : List ByteArray) (line : Int) (ws : List (ByteArray × Int)) (b : Nat) (te : ByteArray) (ce : Int) (k : Nat) (v5 v6 : Value) (wr : World) : Prop where
  nt : Blk wr b 157 #[.string (nameK fs line ws k).1, .int .i64 (nameK fs line ws k).2.1, .int .i64 (nameK fs line ws k).2.2]
  ft : Blk wr (b + 1) 109 #[.int .i64 0, .int .i64 0, .int .i64 0]
  et : Blk wr (b + 1 + 1) 157 #[.string te, .int .i64 line, .int .i64 ce]
  o5 : wr.ownsRow (b + 3) 157 3 v5 (hashK fs ws k).length (tknC line (hashK fs ws k))
  o6 : wr.ownsRow (b + 3) 3 1 v6 (hashK fs ws k).length (intsC (valsK fs ws k))
section
variable {fs : List ByteArray} {line : Int} {ws : List (ByteArray × Int)} {b : Nat} {te : ByteArray} {ce : Int} {k : Nat} {v5 v6 : Value} {wr wr' : World}
theorem FoS.gr (h : FoS fs line ws b te ce k v5 v6 wr) (hg : Gr wr wr') : FoS fs line ws b te ce k v5 v6 wr' :=
  ⟨h.nt.gr hg, h.ft.gr hg, h.et.gr hg, own_below h.o5 hg, own_below h.o6 hg⟩
theorem FoS.next (h : FoS fs line ws b te ce k v5 v6 wr) (h1 : ¬ (fs.getD k ⟨#[]⟩).toList = [110, 97, 109, 101]) (h2 : ¬ (fs.getD k ⟨#[]⟩).toList = [35]) : FoS fs line ws b te ce (k + 1) v5 v6 wr := by
  obtain ⟨a1, a2, a3, a4, a5⟩ := h
  have e1 : nameK fs line ws (k + 1) = nameK fs line ws k := by rw [nameK, if_neg h1]
  have e2 : hashK fs ws (k + 1) = hashK fs ws k := by rw [hashK, if_neg h2]
  have e3 : valsK fs ws (k + 1) = valsK fs ws k := by unfold valsK; rw [e2]
  exact ⟨by rw [e1]; exact a1, a2, a3, by rw [e2]; exact a4, by rw [e2, e3]; exact a5⟩
theorem FoS.name (h : FoS fs line ws b te ce k v5 v6 wr) (h1 : (fs.getD k ⟨#[]⟩).toList = [110, 97, 109, 101]) {t : ByteArray} {c : Int} (hw : ws.getD k w0 = (t, c))
    (hb : Blk wr' b 157 #[.string t, .int .i64 line, .int .i64 c]) (hg : wr.grownBy wr' (some b)) : FoS fs line ws b te ce (k + 1) v5 v6 wr' := by
  obtain ⟨a1, a2, a3, a4, a5⟩ := h
  have e1 : nameK fs line ws (k + 1) = (t, line, c) := by rw [nameK, if_pos h1, hw]
  have h2 : ¬ (fs.getD k ⟨#[]⟩).toList = [35] := by rw [h1]; decide
  have e2 : hashK fs ws (k + 1) = hashK fs ws k := by rw [hashK, if_neg h2]
  have e3 : valsK fs ws (k + 1) = valsK fs ws k := by unfold valsK; rw [e2]
  have n5 : v5.ownBlock = none ∨ v5.ownBlock ≠ some b := .inr fun e => by have := (a4.lt _ e).1; omega
  have n6 : v6.ownBlock = none ∨ v6.ownBlock ≠ some b := .inr fun e => by have := (a5.lt _ e).1; omega
  exact ⟨by rw [e1]; exact hb, a2.grown hg (fun e => by have := Option.some.inj e; omega), a3.grown hg (fun e => by have := Option.some.inj e; omega), by rw [e2]; exact a4.kept hg n5, by rw [e2, e3]; exact a5.kept hg n6⟩
theorem FoS.add (h : FoS fs line ws b te ce k v5 v6 wr) (h1 : (fs.getD k ⟨#[]⟩).toList = [35]) {t : ByteArray} {c : Int} (hw : ws.getD k w0 = (t, c)) {wa W1 wb W2 : World} {u5 u6 : Value}
    (ga : Gr wr wa) (g1 : wa.grownBy W1 v5.ownBlock) (o5 : W1.ownsRow (b + 3) 157 3 u5 ((hashK fs ws k).length + 1) (tknC line (hashK fs ws k) ++ [.string t, .int .i64 line, .int .i64 c]))
    (gb : Gr W1 wb) (g2 : wb.grownBy W2 v6.ownBlock) (o6 : W2.ownsRow (b + 3) 3 1 u6 ((hashK fs ws k).length + 1) (intsC (valsK fs ws k) ++ [.int .i64 (numW t)])) : FoS fs line ws b te ce (k + 1) u5 u6 W2 := by
  have e2 : hashK fs ws (k + 1) = hashK fs ws k ++ [(t, c)] := by rw [hashK, if_pos h1, hw]
  have h2 : ¬ (fs.getD k ⟨#[]⟩).toList = [110, 97, 109, 101] := by rw [h1]; decide
  have e1 : nameK fs line ws (k + 1) = nameK fs line ws k := by rw [nameK, if_neg h2]
  have e3 : intsC (valsK fs ws (k + 1)) = intsC (valsK fs ws k) ++ [.int .i64 (numW t)] := by unfold valsK intsC; rw [e2]; simp
  have e4 : (hashK fs ws (k + 1)).length = (hashK fs ws k).length + 1 := by rw [e2]; simp
  have e5 : tknC line (hashK fs ws (k + 1)) = tknC line (hashK fs ws k) ++ [.string t, .int .i64 line, .int .i64 c] := by rw [e2, tknC_snoc]
  obtain ⟨a1, a2, a3, a4, a5⟩ := h.gr ga
  have k1 : ∀ {j : Nat}, j < b + 3 → some j ≠ v5.ownBlock := fun hj e => by have := (a4.lt _ e.symm).1; omega
  have k2 : ∀ {j : Nat}, j < b + 3 → some j ≠ v6.ownBlock := fun hj e => by have := (a5.lt _ e.symm).1; omega
  have r6 : wb.ownsRow (b + 3) 3 1 v6 (hashK fs ws k).length (intsC (valsK fs ws k)) := own_below (a5.kept g1 (own_two' a5 a4 (by decide))) gb
  have r5 := own_below o5 gb
  exact ⟨by rw [e1]; exact ((a1.grown g1 (k1 (by omega))).gr gb).grown g2 (k2 (by omega)), ((a2.grown g1 (k1 (by omega))).gr gb).grown g2 (k2 (by omega)), ((a3.grown g1 (k1 (by omega))).gr gb).grown g2 (k2 (by omega)),
    by rw [e4, e5]; exact r5.kept g2 (own_two' r5 r6 (by decide)), by rw [e4, e3]; exact o6⟩
end
theorem blk3 {w : World} {b t : Nat} {x y z : Value} (h : Blk w b t #[x, y, z]) : w.cell? ⟨b, 0, none⟩ = some x ∧ w.cell? ⟨b, 1, none⟩ = some y ∧ w.cell? ⟨b, 2, none⟩ = some z ∧ ∀ i, w.frozen? ⟨b, i, none⟩ = false := ⟨h.cell 0, h.cell 1, h.cell 2, h.frozen⟩
theorem Below.set3 {n g : Nat} {a b : World} {u0 u1 u2 : Value} (h : Below n a b) (hg : n ≤ g) : Below n a (((b.setCell ⟨g, 0, none⟩ u0).setCell ⟨g, 1, none⟩ u1).setCell ⟨g, 2, none⟩ u2) := ((h.setCell hg _).setCell hg _).setCell hg _
theorem Blk.set3 {g : Nat} {b : World} {t : TypeId} {v0 v1 v2 : Value} (h : Blk b g t #[v0, v1, v2]) (u0 u1 u2 : Value) : Blk (((b.setCell ⟨g, 0, none⟩ u0).setCell ⟨g, 1, none⟩ u1).setCell ⟨g, 2, none⟩ u2) g t #[u0, u1, u2] := ((h.set_ 0 u0).set_ 1 u1).set_ 2 u2
theorem Blk.far3 {g p : Nat} {b : World} {t : TypeId} {cs : Array Value} (h : Blk b g t cs) (hp : g ≠ p) (u0 u1 u2 : Value) : Blk (((b.setCell ⟨p, 0, none⟩ u0).setCell ⟨p, 1, none⟩ u1).setCell ⟨p, 2, none⟩ u2) g t cs :=
  ((h.far (p := ⟨p, 0, none⟩) hp u0).far (p := ⟨p, 1, none⟩) hp u1).far (p := ⟨p, 2, none⟩) hp u2
theorem grown3 (w : World) (g : Nat) (u0 u1 u2 : Value) : w.grownBy (((w.setCell ⟨g, 0, none⟩ u0).setCell ⟨g, 1, none⟩ u1).setCell ⟨g, 2, none⟩ u2) (some g) :=
  only_setCell (only_setCell (only_setCell (World.grownBy.refl _ _) (p := ⟨g, 0, none⟩) (.inl rfl) u0) (p := ⟨g, 1, none⟩) (.inl rfl) u1) (p := ⟨g, 2, none⟩) (.inl rfl) u2
theorem end_mem {fs : List ByteArray} {line : Int} {ws : List (ByteArray × Int)} {k : Nat} {v5 v6 q0 q1 q2 : Value} {w wr : World} (nt : Blk wr w.heap.size 157 #[.string (nameK fs line ws k).1, .int .i64 (nameK fs line ws k).2.1, .int .i64 (nameK fs line ws k).2.2]) (ft : Blk wr (w.heap.size + 1) 109 #[q0, q1, q2])
    (o5 : wr.ownsRow (w.heap.size + 3) 157 3 v5 (hashK fs ws k).length (tknC line (hashK fs ws k))) (o6 : wr.ownsRow (w.heap.size + 3) 3 1 v6 (hashK fs ws k).length (intsC (valsK fs ws k))) (hB : Below w.heap.size w wr) (l cl n : Int) :
    let W := ((((((wr.setCell ⟨w.heap.size, 0, none⟩ (.string (nameK fs line ws k).1)).setCell ⟨w.heap.size, 1, none⟩ (.int .i64 (nameK fs line ws k).2.1)).setCell ⟨w.heap.size, 2, none⟩ (.int .i64 (nameK fs line ws k).2.2)).setCell ⟨w.heap.size + 1, 0, none⟩ (.int .i64 l)).setCell ⟨w.heap.size + 1, 1, none⟩ (.int .i64 cl)).setCell ⟨w.heap.size + 1, 2, none⟩ (.int .i64 n)).drew
    W.cell? ⟨w.heap.size, 0, none⟩ = some (.string (nameK fs line ws k).1) ∧ W.cell? ⟨w.heap.size, 1, none⟩ = some (.int .i64 (nameK fs line ws k).2.1) ∧ W.cell? ⟨w.heap.size, 2, none⟩ = some (.int .i64 (nameK fs line ws k).2.2) ∧
      W.cell? ⟨w.heap.size + 1, 0, none⟩ = some (.int .i64 l) ∧ W.cell? ⟨w.heap.size + 1, 1, none⟩ = some (.int .i64 cl) ∧ W.cell? ⟨w.heap.size + 1, 2, none⟩ = some (.int .i64 n) ∧
      W.ownsRow (w.heap.size + 3) 157 3 v5 (hashK fs ws k).length (tknC line (hashK fs ws k)) ∧ W.ownsRow (w.heap.size + 3) 3 1 v6 (hashK fs ws k).length (intsC (valsK fs ws k)) ∧ Below w.heap.size w W := by
  intro W
  have z1 : Blk W w.heap.size 157 _ := ((Blk.set3 nt (.string (nameK fs line ws k).1) (.int .i64 (nameK fs line ws k).2.1) (.int .i64 (nameK fs line ws k).2.2)).far3 (p := w.heap.size + 1) (by omega) (.int .i64 l) (.int .i64 cl) (.int .i64 n)).drew
  have z2 : Blk W (w.heap.size + 1) 109 _ := (Blk.set3 (ft.far3 (p := w.heap.size) (by omega) (.string (nameK fs line ws k).1) (.int .i64 (nameK fs line ws k).2.1) (.int .i64 (nameK fs line ws k).2.2)) (.int .i64 l) (.int .i64 cl) (.int .i64 n)).drew
  obtain ⟨a0, a1, a2, _⟩ := blk3 z1
  obtain ⟨b0, b1, b2, _⟩ := blk3 z2
  have key : ∀ {e sz : Nat} {v : Value} {m : Nat} {xs : List Value}, wr.ownsRow (w.heap.size + 3) e sz v m xs → W.ownsRow (w.heap.size + 3) e sz v m xs := fun hr => by
    exact ((hr.kept (grown3 _ _ _ _ _) (own_ne' hr (by omega))).kept (grown3 _ _ _ _ _) (own_ne' hr (by omega))).drew
  exact ⟨a0, a1, a2, b0, b1, b2, key o5, key o6, (Below.set3 (Below.set3 hB (Nat.le_refl _)) (by omega)).drew⟩
theorem FoS.fault {fs : List ByteArray} {line : Int} {ws : List (ByteArray × Int)} {te : ByteArray} {ce : Int} {k : Nat} {v5 v6 : Value} {b : Nat} {wr : World} (h : FoS fs line ws b te ce k v5 v6 wr) (l cl n : Int) :
    let W := ((wr.setCell ⟨b + 1, 0, none⟩ (.int .i64 l)).setCell ⟨b + 1, 1, none⟩ (.int .i64 cl)).setCell ⟨b + 1, 2, none⟩ (.int .i64 n)
    Blk W b 157 #[.string (nameK fs line ws k).1, .int .i64 (nameK fs line ws k).2.1, .int .i64 (nameK fs line ws k).2.2] ∧ Blk W (b + 1) 109 #[.int .i64 l, .int .i64 cl, .int .i64 n] ∧
      W.ownsRow (b + 3) 157 3 v5 (hashK fs ws k).length (tknC line (hashK fs ws k)) ∧ W.ownsRow (b + 3) 3 1 v6 (hashK fs ws k).length (intsC (valsK fs ws k)) :=
  ⟨h.nt.far3 (by omega) _ _ _, Blk.set3 h.ft _ _ _, h.o5.kept (grown3 _ _ _ _ _) (own_ne' h.o5 (by omega)), h.o6.kept (grown3 _ _ _ _ _) (own_ne' h.o6 (by omega))⟩
theorem tknCells' {w : World} {line : Int} {l : List (ByteArray × Int)} {A : Option Addr} {B : Nat} (h : Row w B 3 A l.length (tknC line l)) (h0 : 0 < l.length) :
    ∃ g o, A = some ⟨g, o, none⟩ ∧ g < B ∧ ∀ k, (hk : k < l.length) → w.cell? ⟨g, o + k * 3, none⟩ = some (.string l[k].1) ∧ w.cell? ⟨g, o + k * 3 + 1, none⟩ = some (.int .i64 line) ∧ w.cell? ⟨g, o + k * 3 + 2, none⟩ = some (.int .i64 l[k].2) := by
  obtain ⟨g, o, e, hg, hc⟩ := h.2 h0
  refine ⟨g, o, e, hg, fun k hk => ?_⟩
  have hr := tknC_get line l k l[k] (List.getElem?_eq_getElem hk)
  exact ⟨hc _ _ hr.1, by rw [Nat.add_assoc]; exact hc _ _ hr.2.1, by rw [Nat.add_assoc]; exact hc _ _ hr.2.2⟩
theorem strCells' {w : World} {l : List ByteArray} {A : Option Addr} {B : Nat} (h : Row w B 1 A l.length (strsC l)) (h0 : 0 < l.length) :
    ∃ g o, A = some ⟨g, o, none⟩ ∧ g < B ∧ ∀ k, (hk : k < l.length) → w.cell? ⟨g, o + k, none⟩ = some (.string l[k]) := by
  obtain ⟨g, o, e, hg, hc⟩ := h.2 h0
  exact ⟨g, o, e, hg, fun k hk => hc _ _ (strsC_at hk)⟩

set_option maxRecDepth 100000 in
set_option maxHeartbeats 8000000 in
theorem form_prog (fs : List ByteArray) (line : Int) (ws : List (ByteArray × Int)) (A A' : Option Addr) (c c' B : Nat) (w : World) (hL : LibW w) (hf : fs.length ≤ 10) (hf0 : 0 < fs.length) (hn : ws.length ≤ 1000000) (hn0 : 0 < ws.length)
    (hs : ∀ p ∈ ws, p.1.size ≤ 100000 ∧ 0 ≤ p.2 ∧ p.2 ≤ 1000001) (hR : Row w B 3 A ws.length (tknC line ws)) (hR' : Row w B 1 A' fs.length (strsC fs)) (hB : B ≤ w.heap.size) :
    Calls Tryz.prog 79 #[.slice A ws.length c, .slice A' fs.length c'] w fun e w' => ∃ (k : Nat) (n l cl : Int) (nt : ByteArray × Int × Int) (A1 A2 : Option Addr) (c1 c2 m : Nat),
      e = .returned (.tuple #[.agg #[.string nt.1, .int .i64 nt.2.1, .int .i64 nt.2.2], .slice A1 m c1, .slice A2 m c2, .agg #[.int .i64 l, .int .i64 cl, .int .i64 n]]) ∧ Hid (fieldP fs ws 0 = (k, n)) ∧ Hid (n ≠ 0 → l = line ∧ cl = colW ws k) ∧
      Hid (n = 0 → nt = nameK fs line ws fs.length ∧ m = (hashK fs ws fs.length).length ∧ w'.ownsRow (w.heap.size + 3) 157 3 (.slice A1 m c1) m (tknC line (hashK fs ws fs.length)) ∧ w'.ownsRow (w.heap.size + 3) 3 1 (.slice A2 m c2) m (intsC (valsK fs ws fs.length))) ∧ Below w.heap.size w w' := by
  obtain ⟨m, hm⟩ : ∃ m, ws.length = m + 1 := ⟨ws.length - 1, by omega⟩
  have hml : m < ws.length := by omega
  have hm' : (ws.length : Int) - 1 = m := by omega
  obtain ⟨g, o, rfl, hg, hall⟩ := tknCells' hR hn0
  obtain ⟨g', o', rfl, hg', hall'⟩ := strCells' hR' hf0
  obtain ⟨c0, c1, c2⟩ := hall m hml
  obtain ⟨hs1, hs2, hs3⟩ := hs _ (List.getElem_mem hml)
  have hgw : g < w.heap.size := by omega
  have hgw' : g' < w.heap.size := by omega
  have HOUT : Hid (∀ k, ¬ k < ws.length → colW ws k = ws[m].2 + ws[m].1.size) := Lib.hid fun k hk => colW_out hk hml hm
  have HALL := Lib.hid hall; have HALL' := Lib.hid hall'; have HS := Lib.hid hs; have HL := Lib.hid hL
  clear hall hall' hs hR hR' hL
  obtain ⟨te, ce, hte⟩ : ∃ te ce, ws[m] = (te, ce) := ⟨_, _, rfl⟩
  rw [hte] at c0 c2 hs1 hs2 hs3 HOUT
  simp only at hs1 hs2 hs3 c0 c2 HOUT
  clear hte
  obtain ⟨N, hN⟩ : ∃ N, ws.length = N := ⟨_, rfl⟩
  have HN := Lib.hid hN
  rw [hN] at hn hn0 hm hml hm'
  rw [hN]
  clear hN
  obtain ⟨F, hF⟩ : ∃ F, fs.length = F := ⟨_, rfl⟩
  have HF := Lib.hid hF
  rw [hF] at hf hf0 ⊢
  clear hF
  clear hm
  go_enter Tryz.func79, Tryz.ntmps79
  go_wp2_with fail
  have hF0 : FoS fs line ws w.heap.size te (ce + te.size) 0 (.slice none 0 0) (.slice none 0 0) (((w.alloc (.cells #[.string ⟨#[]⟩, .int .i64 0, .int .i64 0] 157)).alloc (.cells #[.int .i64 0, .int .i64 0, .int .i64 0] 109)).alloc (.cells #[.string te, .int .i64 line, .int .i64 (ce + te.size)] 157)) :=
    ⟨((Blk.new w _ _).alloc _).alloc _, (Blk.new' _ _ _ (by simp)).alloc _, Blk.new' _ _ _ (by simp), World.ownsRow_nil _ _ _ _, World.ownsRow_nil _ _ _ _⟩
  have hB0 : Below w.heap.size w (((w.alloc (.cells #[.string ⟨#[]⟩, .int .i64 0, .int .i64 0] 157)).alloc (.cells #[.int .i64 0, .int .i64 0, .int .i64 0] 109)).alloc (.cells #[.string te, .int .i64 line, .int .i64 (ce + te.size)] 157)) := (by repeat first | (with_reducible first | exact Below.refl _ _ | assumption) | ((with_reducible first | refine Below.setCell ?_ ?_ _ | refine Below.alloc ?_ ?_ _); rotate_left; · first | exact Nat.le_refl _ | (simp; done) | (simp; omega) | omega) | (with_reducible first | apply Below.drew | apply below_drewN') | refine Below.trans ?_ (Below.mono (by assumption) (by first | exact Nat.le_refl _ | (simp; done) | (simp; omega) | omega)) | exact Below.refl _ _ | assumption)
  clear c0 c1 c2
  generalize (((w.alloc (.cells #[.string ⟨#[]⟩, .int .i64 0, .int .i64 0] 157)).alloc (.cells #[.int .i64 0, .int .i64 0, .int .i64 0] 109)).alloc (.cells #[.string te, .int .i64 line, .int .i64 (ce + te.size)] 157)) = W0 at *
  go_loopw [5, 6, 31] (fun s5 s6 s31 wr => ∃ (k : Nat) (v5 v6 : Value), s5 = v5 ∧ s6 = v6 ∧ s31 = .int .i64 k ∧ k ≤ F ∧ k ≤ N ∧ Hid (fieldP fs ws 0 = fieldP fs ws k) ∧ FoS fs line ws w.heap.size te (ce + te.size) k v5 v6 wr ∧ Below w.heap.size w wr) (fun _ _ i _ => F - (RowKit.intOf i).toNat)
  case atStart => exact ⟨0, _, _, rfl, rfl, rfl, by omega, by omega, Lib.hid rfl, hF0, hB0⟩
  case round =>
    clear hF0 hB0
    obtain ⟨k, v5, v6, rfl, rfl, rfl, hkF, hkN, HK, hFS, hBB⟩ := hrel
    have hzB := Below.size hBB
    by_cases hlt : k < F
    · by_cases hl2 : k < N
      · have hl2' : k < ws.length := by rw [HN.out]; exact hl2
        have hlt' : k < fs.length := by rw [HF.out]; exact hlt
        obtain ⟨x0, x1, x2⟩ := HALL.out k hl2'
        have y0 := HALL'.out k hlt'
        obtain ⟨hs4, hs5, hs6⟩ := HS.out _ (List.getElem_mem hl2')
        have HBAD : Hid (∀ n, fieldE fs[k] ws[k].1 = n → n ≠ 0 → fieldP fs ws 0 = (k, n)) := Lib.hid fun n h1 h2 => HK.out.trans (fieldP_bad hlt' hl2' h1 h2)
        have HGO : Hid (fieldE fs[k] ws[k].1 = 0 → fieldP fs ws 0 = fieldP fs ws (k + 1)) := Lib.hid fun h1 => HK.out.trans (fieldP_go hlt' hl2' h1)
        have HCW : Hid (colW ws k = ws[k].2) := Lib.hid (colW_in hl2')
        have HWK : Hid (ws.getD k w0 = ws[k]) := Lib.hid (getD_of hl2' _)
        have HFK : Hid (fs.getD k ⟨#[]⟩ = fs[k]) := Lib.hid (getD_of hlt' _)
        obtain ⟨f, hf'⟩ : ∃ f, fs[k] = f := ⟨_, rfl⟩
        obtain ⟨t, col, ht'⟩ : ∃ t col, ws[k] = (t, col) := ⟨_, _, rfl⟩
        rw [hf'] at y0 HBAD HGO HFK
        rw [ht'] at x0 x2 hs4 hs5 hs6 HBAD HGO HCW HWK
        simp only at x0 x2 hs4 hs5 hs6 HBAD HGO HCW HWK
        clear hl2' hlt' hf' ht' HK
        replace x0 := (hBB.cell (p := ⟨g, _, none⟩) hgw).trans x0
        replace x1 := (hBB.cell (p := ⟨g, _, none⟩) hgw).trans x1
        replace x2 := (hBB.cell (p := ⟨g, _, none⟩) hgw).trans x2
        replace y0 := (hBB.cell (p := ⟨g', _, none⟩) hgw').trans y0
        have hgr : g < wr.heap.size := by omega
        have hgr' : g' < wr.heap.size := by omega
        have HLr := Lib.hid ((HL.out.below hBB (Nat.le_refl _)).below ((Below.refl wr.heap.size wr).alloc (Nat.le_refl _) (.cells #[.string t, .int .i64 line, .int .i64 col] 157)) (Nat.le_refl _))
        go_wp2_with fail
        refine (readNumber_any t hs4 _ HLr.out).mono ?_
        rintro e w2 ⟨n, bb, rfl, hbb, hnn, hB2⟩
        have bt := (Blk.new wr 157 #[.string t, .int .i64 line, .int .i64 col]).below hB2 (by simp)
        have hg2 : Gr wr w2 := ((Below.refl wr.heap.size wr).alloc (Nat.le_refl _) _).trans (hB2.mono (by simp))
        have HF2 := Lib.hid (hFS.gr hg2)
        have hBB2 := hBB.trans (hg2.mono hzB)
        have HBB2 := Lib.hid hBB2
        have hz2 := Below.size hg2
        obtain ⟨p0, p1, p2, pf⟩ := blk3 bt
        obtain ⟨n0, n1, n2, nf⟩ := blk3 HF2.out.nt
        obtain ⟨f0, f1, f2, ff⟩ := blk3 HF2.out.ft
        have lt1 := bt.lt
        have lt2 := HF2.out.nt.lt
        have lt3 := HF2.out.ft.lt
        have HNN := Lib.hid hnn; have HBv := Lib.hid hbb
        have lt4 := hFS.et.lt
        have d1 : ¬ wr.heap.size = w.heap.size := by omega
        have d2 : ¬ wr.heap.size = w.heap.size + 1 := by omega
        have d3 : ¬ w.heap.size = wr.heap.size := by omega
        have d4 : ¬ w.heap.size + 1 = wr.heap.size := by omega
        clear lt4
        clear x0 x1 x2 y0 hgr hgr' HLr hB2 hg2 hBB2 hFS hBB hzB hnn hbb
        by_cases h1 : f.toList = [110, 97, 109, 101]
        · cases hnb : nameB t with
          | false =>
            have HE := Lib.hid (HBAD.out 4 (by unfold fieldE; rw [if_pos h1, hnb]; rfl) (by decide))
            have HNB := Lib.hid hnb
            clear hnb HBAD HGO HOUT HALL HALL' HS HL HN HNN HBv HWK HFK
            go_wp2_with (go_at_call 56; refine (isName_any t _ (by omega)).mono ?_; rw [HNB.out]; rintro e w3 ⟨rfl, hB3⟩; have hz3 := Below.size hB3; replace bt := bt.below hB3 lt1; replace HF2 := Lib.hid (HF2.out.gr hB3); replace HBB2 := Lib.hid (HBB2.out.trans (hB3.mono (by omega))); clear p0 p1 p2 pf n0 n1 n2 nf f0 f1 f2 ff lt1 lt2 lt3 hB3; obtain ⟨p0, p1, p2, pf⟩ := blk3 bt; obtain ⟨n0, n1, n2, nf⟩ := blk3 HF2.out.nt; obtain ⟨f0, f1, f2, ff⟩ := blk3 HF2.out.ft; have lt1 := bt.lt; have lt2 := HF2.out.nt.lt; have lt3 := HF2.out.ft.lt)
            go_region
            clear p0 p1 p2 pf
            go_wp2
            obtain ⟨A5, q5, e5, _⟩ := Row.own HF2.out.o5
            obtain ⟨A6, q6, e6, _⟩ := Row.own HF2.out.o6
            obtain ⟨z0, z1, z2, z3, z4, z5, _, _, zB⟩ := end_mem HF2.out.nt HF2.out.ft HF2.out.o5 HF2.out.o6 HBB2.out line (col) 4
            refine bodyPost_ret (v := .tuple #[.agg #[.string (nameK fs line ws k).1, .int .i64 (nameK fs line ws k).2.1, .int .i64 (nameK fs line ws k).2.2], .slice A5 (hashK fs ws k).length q5, .slice A6 (hashK fs ws k).length q6, .agg #[.int .i64 line, .int .i64 (col), .int .i64 4]]) ?_ rfl ⟨_, _, _, _, _, _, _, _, _, _, rfl, HE, Lib.hid (fun _ => ⟨rfl, HCW.out.symm⟩), Lib.hid (fun h => absurd h (by decide)), zB⟩
            simp [results, Tryz.results79, go_sem, z0, z1, z2, z3, z4, z5, e5, e6]
          | true =>
            have HE := Lib.hid ((HGO.out (by unfold fieldE; rw [if_pos h1, hnb]; rfl)))
            have HNB := Lib.hid hnb
            have H1 := Lib.hid h1
            clear hnb HBAD HGO
            go_wp2_with (go_at_call 56; refine (isName_any t _ (by omega)).mono ?_; rw [HNB.out]; rintro e w3 ⟨rfl, hB3⟩; have hz3 := Below.size hB3; replace bt := bt.below hB3 lt1; replace HF2 := Lib.hid (HF2.out.gr hB3); replace HBB2 := Lib.hid (HBB2.out.trans (hB3.mono (by omega))); clear p0 p1 p2 pf n0 n1 n2 nf f0 f1 f2 ff lt1 lt2 lt3 hB3; obtain ⟨p0, p1, p2, pf⟩ := blk3 bt; obtain ⟨n0, n1, n2, nf⟩ := blk3 HF2.out.nt; obtain ⟨f0, f1, f2, ff⟩ := blk3 HF2.out.ft; have lt1 := bt.lt; have lt2 := HF2.out.nt.lt; have lt3 := HF2.out.ft.lt)
            have HFN := Lib.hid (HF2.out.name (by rw [HFK.out]; exact H1.out) HWK.out (Blk.set3 HF2.out.nt (.string t) (.int .i64 line) (.int .i64 col)) (grown3 _ _ _ _ _))
            have HBN := Lib.hid (Below.set3 (u0 := .string t) (u1 := .int .i64 line) (u2 := .int .i64 col) HBB2.out (Nat.le_refl _))
            exact ⟨⟨k + 1, _, _, rfl, rfl, by go_num, by omega, by omega, HE, HFN.out, HBN.out⟩, by (first | (simp [RowKit.intOf]; done) | (simp [RowKit.intOf]; omega))⟩
        · by_cases h2 : f.toList = [35]
          · cases ho : numL 9 t.data.toList with
            | none =>
              have HE := Lib.hid (HBAD.out 7 (by unfold fieldE; rw [if_neg h1, if_pos h2, if_pos ho]) (by decide))
              have hbb := HBv.out
              rw [ho] at hbb
              obtain rfl : bb = false := hbb
              have H1 := Lib.hid h1
              clear ho HBAD HGO HOUT HALL HALL' HS HL HN HNN HBv HWK HFK h1
              have g1 : ¬ f.toList = [110, 97, 109, 101] := H1.out
              go_wp2_with fail
              go_region
              clear p0 p1 p2 pf
              go_wp2
              obtain ⟨A5, q5, e5, _⟩ := Row.own HF2.out.o5
              obtain ⟨A6, q6, e6, _⟩ := Row.own HF2.out.o6
              obtain ⟨z0, z1, z2, z3, z4, z5, _, _, zB⟩ := end_mem HF2.out.nt HF2.out.ft HF2.out.o5 HF2.out.o6 HBB2.out line (col) 7
              refine bodyPost_ret (v := .tuple #[.agg #[.string (nameK fs line ws k).1, .int .i64 (nameK fs line ws k).2.1, .int .i64 (nameK fs line ws k).2.2], .slice A5 (hashK fs ws k).length q5, .slice A6 (hashK fs ws k).length q6, .agg #[.int .i64 line, .int .i64 (col), .int .i64 7]]) ?_ rfl ⟨_, _, _, _, _, _, _, _, _, _, rfl, HE, Lib.hid (fun _ => ⟨rfl, HCW.out.symm⟩), Lib.hid (fun h => absurd h (by decide)), zB⟩
              simp [results, Tryz.results79, go_sem, z0, z1, z2, z3, z4, z5, e5, e6]
            | some v =>
              have HE := Lib.hid (HGO.out (by unfold fieldE; rw [if_neg h1, if_pos h2, if_neg (by rw [ho]; simp)]))
              have hbb := HBv.out
              have hnn := HNN.out
              rw [ho] at hbb hnn
              obtain rfl : bb = true := hbb
              obtain rfl : n = v := hnn v rfl
              have HV : Hid (numW t = n) := Lib.hid (by unfold numW; rw [ho]; rfl)
              have H2 := Lib.hid h2
              have HLEN := Lib.hid (hashK_len fs ws k)
              clear ho HBAD HGO hnn HNN HBv
              obtain ⟨i0, hi0, hq0, hq1, hq2⟩ := info_parts infoTok
              obtain ⟨i1, hi1, hr0, hr1, hr2⟩ := info_parts infoInt
              have hOa := HF2.out.o5.alloc (.cells #[.string t, .int .i64 line, .int .i64 col] 157)
              have HGA : Hid (Gr w2 (w2.alloc (.cells #[.string t, .int .i64 line, .int .i64 col] 157))) := Lib.hid ((Below.refl _ _).alloc (Nat.le_refl _) _)
              have hzb := HBB2.out.size
              go_wp2_with (first
                | (at_builtin; refine wpList_append_own _ rfl _ _ 105 rfl (w.heap.size + 3) 157 i0 _ 3 32 Tryz.underlying105 hi0 hq0 hq1 hq2 rfl (by decide) _ _ _ rfl hOa ⟨w2.heap.size, 0, none⟩ 1 1 [.string t, .int .i64 line, .int .i64 col] rfl rfl (cell_three_new _ _ _ _ _) (by simp [Value.oneCell']) (by have := HLEN.out; unfold maxLen; omega) (by have := HLEN.out; omega) (by first | omega | (simp; done) | (simp; omega)) ?_; intro v2 W5 hown' hgrow _; have hOb := own_below ((HF2.out.gr HGA.out).o6.kept hgrow (own_two' (HF2.out.gr HGA.out).o6 hOa (by decide))) ((Below.refl W5.heap.size W5).alloc (Nat.le_refl _) (.cells #[.int .i64 n] 3)); have hzs := hgrow.size)
                | (at_builtin; refine wpList_append_own _ rfl _ _ 71 rfl (w.heap.size + 3) 3 i1 _ 1 8 Tryz.underlying71 hi1 hr0 hr1 hr2 rfl (by decide) _ _ _ rfl hOb ⟨W5.heap.size, 0, none⟩ 1 1 [.int .i64 n] rfl rfl (cell_one_new _ _ _) (by simp [Value.oneCell']) (by have := HLEN.out; unfold maxLen; omega) (by have := HLEN.out; omega) (by first | omega | (simp; done) | (simp; omega) | (simp at hzs; simp; omega)) ?_; intro v3 W6 hown6 hgrow6 _))
              have hBa := HBB2.out.alloc hzb (.cells #[.string t, .int .i64 line, .int .i64 col] 157)
              have hBb := below_own hBa (by omega) hOa hgrow
              have HBN := Lib.hid (below_own (hBb.alloc hBb.size (.cells #[.int .i64 n] 3)) (by omega) hOb hgrow6)
              have HFN := Lib.hid (HF2.out.add (by rw [HFK.out]; exact H2.out) HWK.out HGA.out hgrow hown' ((Below.refl W5.heap.size W5).alloc (Nat.le_refl _) (.cells #[.int .i64 n] 3)) hgrow6 (by rw [HV.out]; exact hown6))
              exact ⟨⟨k + 1, _, _, rfl, rfl, by go_num, by omega, by omega, HE, HFN.out, HBN.out⟩, by (first | (simp [RowKit.intOf]; done) | (simp [RowKit.intOf]; omega))⟩
          · by_cases h3 : f.toList = t.toList
            · have HE := Lib.hid (HGO.out (by unfold fieldE; rw [if_neg h1, if_neg h2, if_pos h3]))
              have H1 := Lib.hid h1; have H2 := Lib.hid h2
              clear HBAD HGO
              obtain rfl : f = t := toList_inj h3
              have g1 : (f.toList == [110, 97, 109, 101]) = false := beq_eq_false_iff_ne.2 h1
              have g2 : (f.toList == [35]) = false := beq_eq_false_iff_ne.2 h2
              clear h3 h1 h2
              go_wp2_with fail
              have HFN := Lib.hid (HF2.out.next (by rw [HFK.out]; exact H1.out) (by rw [HFK.out]; exact H2.out))
              have HBN := HBB2
              exact ⟨⟨k + 1, _, _, rfl, rfl, by go_num, by omega, by omega, HE, HFN.out, HBN.out⟩, by (first | (simp [RowKit.intOf]; done) | (simp [RowKit.intOf]; omega))⟩
            · have HE := Lib.hid (HBAD.out 7 (by unfold fieldE; rw [if_neg h1, if_neg h2, if_neg h3]) (by decide))
              have g1 : (f.toList == [110, 97, 109, 101]) = false := beq_eq_false_iff_ne.2 h1
              have g2 : (f.toList == [35]) = false := beq_eq_false_iff_ne.2 h2
              have g3 : (f.toList == t.toList) = false := beq_eq_false_iff_ne.2 h3
              clear HBAD HGO HOUT HALL HALL' HS HL HN HNN HBv HWK HFK h1 h2 h3
              go_wp2_with fail
              go_region
              clear p0 p1 p2 pf
              go_wp2
              obtain ⟨A5, q5, e5, _⟩ := Row.own HF2.out.o5
              obtain ⟨A6, q6, e6, _⟩ := Row.own HF2.out.o6
              obtain ⟨z0, z1, z2, z3, z4, z5, _, _, zB⟩ := end_mem HF2.out.nt HF2.out.ft HF2.out.o5 HF2.out.o6 HBB2.out line (col) 7
              refine bodyPost_ret (v := .tuple #[.agg #[.string (nameK fs line ws k).1, .int .i64 (nameK fs line ws k).2.1, .int .i64 (nameK fs line ws k).2.2], .slice A5 (hashK fs ws k).length q5, .slice A6 (hashK fs ws k).length q6, .agg #[.int .i64 line, .int .i64 (col), .int .i64 7]]) ?_ rfl ⟨_, _, _, _, _, _, _, _, _, _, rfl, HE, Lib.hid (fun _ => ⟨rfl, HCW.out.symm⟩), Lib.hid (fun h => absurd h (by decide)), zB⟩
              simp [results, Tryz.results79, go_sem, z0, z1, z2, z3, z4, z5, e5, e6]
      · obtain rfl : k = N := by omega
        have hlt' : k < fs.length := by rw [HF.out]; exact hlt
        have HE := Lib.hid (HK.out.trans (fieldP_out hlt' (by rw [HN.out]; omega)))
        have HCW : Hid (colW ws k = ce + te.size) := Lib.hid (HOUT.out k (by rw [HN.out]; omega))
        have HF2 := Lib.hid hFS
        have HBB2 := Lib.hid hBB
        have y0 := (hBB.cell (p := ⟨g', _, none⟩) hgw').trans (HALL'.out k hlt')
        have hgr' : g' < wr.heap.size := by omega
        obtain ⟨f, hf'⟩ : ∃ f, fs[k] = f := ⟨_, rfl⟩
        rw [hf'] at y0
        clear hf' hlt' HK hFS hBB HALL HALL' HS HL
        obtain ⟨p0, p1, p2, pf⟩ := blk3 HF2.out.et
        obtain ⟨n0, n1, n2, nf⟩ := blk3 HF2.out.nt
        obtain ⟨f0, f1, f2, ff⟩ := blk3 HF2.out.ft
        have lt1 := HF2.out.et.lt
        have lt2 := HF2.out.nt.lt
        have lt3 := HF2.out.ft.lt
        go_wp2_with fail
        go_region
        clear p0 p1 p2 pf
        go_wp2
        obtain ⟨A5, q5, e5, _⟩ := Row.own HF2.out.o5
        obtain ⟨A6, q6, e6, _⟩ := Row.own HF2.out.o6
        obtain ⟨z0, z1, z2, z3, z4, z5, _, _, zB⟩ := end_mem HF2.out.nt HF2.out.ft HF2.out.o5 HF2.out.o6 HBB2.out line (ce + te.size) 6
        refine bodyPost_ret (v := .tuple #[.agg #[.string (nameK fs line ws k).1, .int .i64 (nameK fs line ws k).2.1, .int .i64 (nameK fs line ws k).2.2], .slice A5 (hashK fs ws k).length q5, .slice A6 (hashK fs ws k).length q6, .agg #[.int .i64 line, .int .i64 (ce + te.size), .int .i64 6]]) ?_ rfl ⟨_, _, _, _, _, _, _, _, _, _, rfl, HE, Lib.hid (fun _ => ⟨rfl, HCW.out.symm⟩), Lib.hid (fun h => absurd h (by decide)), zB⟩
        simp [results, Tryz.results79, go_sem, z0, z1, z2, z3, z4, z5, e5, e6]
    · obtain rfl : k = F := by omega
      have HF2 := Lib.hid hFS
      have HBB2 := Lib.hid hBB
      have HE0 := Lib.hid (HK.out.trans (fieldP_end (by rw [HF.out]; omega)))
      obtain ⟨n0, n1, n2, nf⟩ := blk3 HF2.out.nt
      obtain ⟨f0, f1, f2, ff⟩ := blk3 HF2.out.ft
      have lt2 := HF2.out.nt.lt
      have lt3 := HF2.out.ft.lt
      by_cases hmore : k < N
      · have hl2' : k < ws.length := by rw [HN.out]; exact hmore
        obtain ⟨x0, x1, x2⟩ := HALL.out k hl2'
        replace x0 := (hBB.cell (p := ⟨g, _, none⟩) hgw).trans x0
        replace x1 := (hBB.cell (p := ⟨g, _, none⟩) hgw).trans x1
        replace x2 := (hBB.cell (p := ⟨g, _, none⟩) hgw).trans x2
        have hgr : g < wr.heap.size := by omega
        have HCW : Hid (colW ws k = ws[k].2) := Lib.hid (colW_in hl2')
        have HE : Hid (fieldP fs ws 0 = (k, 7)) := Lib.hid (by rw [HE0.out, HF.out, HN.out, if_pos hmore])
        obtain ⟨t, col, ht'⟩ : ∃ t col, ws[k] = (t, col) := ⟨_, _, rfl⟩
        rw [ht'] at x0 x2 HCW
        simp only at x0 x2 HCW
        clear ht' hl2' HK hFS hBB HALL HALL' HS HL HE0 HOUT HN HF
        go_wp2_with fail
        obtain ⟨m1, m2, m3, m4⟩ := HF2.out.fault line col 7
        have HB3 := Lib.hid (Below.set3 (u0 := .int .i64 line) (u1 := .int .i64 col) (u2 := .int .i64 7) HBB2.out (show w.heap.size ≤ w.heap.size + 1 by omega))
        generalize (((wr.setCell ⟨w.heap.size + 1, 0, none⟩ (.int .i64 line)).setCell ⟨w.heap.size + 1, 1, none⟩ (.int .i64 col)).setCell ⟨w.heap.size + 1, 2, none⟩ (.int .i64 7)) = W3 at *
        have M1 := Lib.hid m1; have M2 := Lib.hid m2; have M3 := Lib.hid m3; have M4 := Lib.hid m4
        clear x0 x1 x2 n0 n1 n2 nf f0 f1 f2 ff lt2 lt3 hgr
        obtain ⟨n0, n1, n2, nf⟩ := blk3 m1
        obtain ⟨f0, f1, f2, ff⟩ := blk3 m2
        have lt2 := m1.lt
        have lt3 := m2.lt
        clear m1 m2 m3 m4
        go_region
        go_wp2
        obtain ⟨A5, q5, e5, _⟩ := Row.own M3.out
        obtain ⟨A6, q6, e6, _⟩ := Row.own M4.out
        obtain ⟨z0, z1, z2, z3, z4, z5, _, _, zB⟩ := end_mem M1.out M2.out M3.out M4.out HB3.out line col 7
        refine bodyPost_ret (v := .tuple #[.agg #[.string (nameK fs line ws k).1, .int .i64 (nameK fs line ws k).2.1, .int .i64 (nameK fs line ws k).2.2], .slice A5 (hashK fs ws k).length q5, .slice A6 (hashK fs ws k).length q6, .agg #[.int .i64 line, .int .i64 col, .int .i64 7]]) ?_ rfl ⟨_, _, _, _, _, _, _, _, _, _, rfl, HE, Lib.hid (fun _ => ⟨rfl, HCW.out.symm⟩), Lib.hid (fun h => absurd h (by decide)), zB⟩
        simp [results, Tryz.results79, go_sem, z0, z1, z2, z3, z4, z5, e5, e6]
      · have HE : Hid (fieldP fs ws 0 = (0, 0)) := Lib.hid (by rw [HE0.out, HF.out, HN.out, if_neg hmore])
        clear HK hFS hBB HALL HALL' HS HL HE0 HOUT HN
        go_wp2_with fail
        go_region
        go_wp2
        obtain ⟨z0, z1, z2, z3, z4, z5, zo5, zo6, zB⟩ := end_mem HF2.out.nt HF2.out.ft HF2.out.o5 HF2.out.o6 HBB2.out 0 0 0
        obtain ⟨A5, q5, e5, _⟩ := Row.own zo5
        obtain ⟨A6, q6, e6, _⟩ := Row.own zo6
        refine bodyPost_ret (v := .tuple #[.agg #[.string (nameK fs line ws k).1, .int .i64 (nameK fs line ws k).2.1, .int .i64 (nameK fs line ws k).2.2], .slice A5 (hashK fs ws k).length q5, .slice A6 (hashK fs ws k).length q6, .agg #[.int .i64 0, .int .i64 0, .int .i64 0]]) ?_ rfl ⟨_, _, _, _, _, _, _, _, _, _, rfl, HE, Lib.hid (fun h => absurd rfl h), Lib.hid (fun _ => ⟨rfl, rfl, by rw [← e5]; exact zo5, by rw [← e6]; exact zo6⟩), zB⟩
        simp [results, Tryz.results79, go_sem, z0, z1, z2, z3, z4, z5, e5, e6]
end Go.Proofs.YtaekcfancfoccaaGreatDoor
