/- cover.Parse. -/
import Derived.Test.YtaekcfancfoccaaGreatDoorZmCuW
namespace Go.Proofs.YtaekcfancfoccaaGreatDoor
open Go.RowKit Go.Shelf Go.Lib

attribute [local go_sem] Oper.semAt_some
theorem lineWs_size (l : List UInt8) {B : Nat} (h : (strB l).size ≤ B) : ∀ p ∈ lineWs l, p.1.size ≤ B ∧ 0 ≤ p.2 ∧ p.2 ≤ (B : Int) := words_size (strB l) h
theorem parseL_end0 (k : Nat) : parseL k none [] = (joZ, ((k : Int) + 1, 1), 6) := by rw [parseL]
theorem parseL_end1 (k : Nat) (j : Jo) : parseL k (some j) [] = (j, (0, 0), 0) := by rw [parseL]
theorem arr_len_ (s : ByteArray) : s.data.toList.length = s.size := by rw [Array.length_toList]; rfl
theorem fin4_same {W : World} {rb mb eb D : Nat} (u0 u1 u2 u3 x y e : Value) (h1 : D ≠ rb) (h2 : D ≠ mb) (h3 : D ≠ eb) : (fin4 W rb mb eb u0 u1 u2 u3 x y e).heap[D]? = W.heap[D]? := by
  unfold fin4
  rw [Below.heap_setCell _ _ _ _ h3, Below.heap_setCell _ _ _ _ h2, Below.heap_setCell _ _ _ _ h2, Below.heap_setCell _ _ _ _ h1, Below.heap_setCell _ _ _ _ h1, Below.heap_setCell _ _ _ _ h1, Below.heap_setCell _ _ _ _ h1]
theorem own_fin4 {W : World} {base e size n rb mb eb : Nat} {v : Value} {xs : List Value} (h : W.ownsRow base e size v n xs) (h1 : rb < base) (h2 : mb < base) (h3 : eb < base) (u0 u1 u2 u3 x y er : Value) : (fin4 W rb mb eb u0 u1 u2 u3 x y er).ownsRow base e size v n xs :=
  own_set (own_set (own_set (own_set4 h h1 u0 u1 u2 u3) (p := ⟨mb, 0, none⟩) h2 x) (p := ⟨mb, 1, none⟩) h2 y) (p := ⟨eb, 0, none⟩) h3 er
attribute [local irreducible] parseL lineWs headP faceP

theorem piece {T : List UInt8} {pre : List ByteArray} {x : ByteArray} (h : pre ++ [x] <+: (linesY T).map strB) : pre.length < (linesR T).length ∧ (linesR T).drop pre.length = trimSuffix x.data.toList [10] :: (linesR T).drop (pre.length + 1) ∧ x.size ≤ T.length := by
  obtain ⟨r, hr⟩ := h
  have e0 := lines_trim _ T (Nat.le_refl _)
  have e1 : ((linesY T).map strB)[pre.length]? = some x := by rw [← hr]; simp
  rw [List.getElem?_map] at e1
  obtain ⟨y, hy, hyx⟩ := Option.map_eq_some_iff.1 e1
  obtain ⟨hlt, hge⟩ := List.getElem?_eq_some_iff.1 hy
  have hxd : x.data.toList = y := by rw [← hyx]; rfl
  have hlR : (linesR T).length = (linesY T).length := by rw [← e0, List.length_map]
  have hltR : pre.length < (linesR T).length := by omega
  refine ⟨hltR, ?_, ?_⟩
  · rw [List.drop_eq_getElem_cons hltR]
    congr 1
    have : (linesR T)[pre.length]? = some (trimSuffix x.data.toList [10]) := by
      rw [← e0, List.getElem?_map, hy, hxd]; rfl
    exact (List.getElem?_eq_some_iff.1 this).2
  · have h2 := linesY_size _ T y (Nat.le_refl _) (by rw [← hge]; exact List.getElem_mem hlt)
    rw [← hyx, strB_size]; exact h2
theorem pieces_len (T : List UInt8) : (linesR T).length = ((linesY T).map strB).length ∧ (linesR T).length ≤ T.length := by
  have e0 := lines_trim _ T (Nat.le_refl _)
  have h1 := linesY_length _ T (Nat.le_refl _)
  rw [← e0]
  simp only [List.length_map]
  exact ⟨trivial, h1⟩

def PaX (w : World) (n : Nat) (L : List (List UInt8)) (c : Code) (W : World) : Prop :=
  c = .ret ∧ ∃ (ml mc er : Int), parseL 0 none L = (joZ, (ml, mc), er) ∧ Blk W n 24 #[.string ⟨#[]⟩, .int .i64 0, .int .i64 0, .slice none 0 0] ∧ Blk W (n + 1) 34 #[.int .i64 ml, .int .i64 mc] ∧ Blk W (n + 2) 27 #[.int .i64 er] ∧ Below n w W ∧ n + 6 ≤ W.heap.size
def PaN (w : World) (n : Nat) (L : List (List UInt8)) (pre : List ByteArray) (W : World) : Prop := ∃ st, PaI w n pre.length st W ∧ parseL 0 none L = parseL pre.length st (L.drop pre.length)
theorem PaX.kept {w : World} {n : Nat} {L : List (List UInt8)} {c : Code} {W W' : World} {row : Option Nat} (h : PaX w n L c W) (hg : W.grownBy W' row) (hlo : ∀ r, row = some r → n + 5 ≤ r) : PaX w n L c W' := by
  obtain ⟨hc, ml, mc, er, hp, h1, h2, h3, h4, h5⟩ := h
  have lo : ∀ i, i < n + 5 → some i ≠ row := fun i hi e => by have := hlo i e.symm; omega
  exact ⟨hc, ml, mc, er, hp, h1.grown hg (lo _ (by omega)), h2.grown hg (lo _ (by omega)), h3.grown hg (lo _ (by omega)), h4.grown hg (by omega) (fun r e => by have := hlo r e; omega), Nat.le_trans h5 hg.size⟩
theorem Shut.joR {n₀ : Nat} {w w' : World} (hs : Shut n₀ w w') {j : Jo} {A : Option Addr} {c base : Nat} (o : w.ownsRow base 83 5 (.slice A j.fs.length c) j.fs.length (fcsC j.fs)) : JoR j A c w' := by
  have o' := hs.own o
  have hc := cap_of o'
  refine ⟨own_row o', fun hA => ?_, hc.1, hc.2⟩
  rcases o'.2 with ⟨hv, _⟩ | ⟨g, cap, cur, hv, _⟩
  · injection hv with _ _ h3
  · injection hv with h1
    rw [hA] at h1; cases h1
theorem ParseR.joint {t : ByteArray} {w w' : World} {j : Jo} {A : Option Addr} {c : Nat} (h : parseT t = (j, (0, 0), 0)) (hJ : JoR j A c w') (hB : Below w.heap.size w w') : ParseR t w (.returned (.tuple #[.agg #[.string j.nm, .int .i64 j.thick, .int .i64 j.zone, .slice A j.fs.length c], .agg #[.int .i64 0, .int .i64 0], .int .i64 0])) w' :=
  ⟨A, c, by rw [h]; rfl, by rw [h]; exact hJ, hB⟩

theorem pa_start (w : World) (t : ByteArray) : PaI w w.heap.size 0 none ((((((w.alloc (.cells #[.string ⟨#[]⟩, .int .i64 0, .int .i64 0, .slice none 0 0] 24)).alloc (.cells #[.int .i64 0, .int .i64 0] 34)).alloc (.cells #[.int .i64 0] 27)).alloc (.cells #[.pointer none] 101)).alloc (.cells #[.int .i64 0] 3)).alloc (.cells #[.string t] 9)) ∧ Boxed ((((((w.alloc (.cells #[.string ⟨#[]⟩, .int .i64 0, .int .i64 0, .slice none 0 0] 24)).alloc (.cells #[.int .i64 0, .int .i64 0] 34)).alloc (.cells #[.int .i64 0] 27)).alloc (.cells #[.pointer none] 101)).alloc (.cells #[.int .i64 0] 3)).alloc (.cells #[.string t] 9)) (w.heap.size + 5) 9 (.string t) ∧ ((((((w.alloc (.cells #[.string ⟨#[]⟩, .int .i64 0, .int .i64 0, .slice none 0 0] 24)).alloc (.cells #[.int .i64 0, .int .i64 0] 34)).alloc (.cells #[.int .i64 0] 27)).alloc (.cells #[.pointer none] 101)).alloc (.cells #[.int .i64 0] 3)).alloc (.cells #[.string t] 9)).heap.size = w.heap.size + 6 := by
  have b2 : Blk _ (w.heap.size + 1) 34 #[.int .i64 0, .int .i64 0] := Blk.new' (w.alloc (.cells #[.string ⟨#[]⟩, .int .i64 0, .int .i64 0, .slice none 0 0] 24)) _ _ (by simp)
  have b3 : Blk _ (w.heap.size + 2) 27 #[.int .i64 0] := Blk.new' ((w.alloc (.cells #[.string ⟨#[]⟩, .int .i64 0, .int .i64 0, .slice none 0 0] 24)).alloc (.cells #[.int .i64 0, .int .i64 0] 34)) _ _ (by simp)
  have b4 : Blk _ (w.heap.size + 3) 101 #[.pointer none] := Blk.new' (((w.alloc (.cells #[.string ⟨#[]⟩, .int .i64 0, .int .i64 0, .slice none 0 0] 24)).alloc (.cells #[.int .i64 0, .int .i64 0] 34)).alloc (.cells #[.int .i64 0] 27)) _ _ (by simp)
  have b5 : Blk _ (w.heap.size + 4) 3 #[.int .i64 0] := Blk.new' ((((w.alloc (.cells #[.string ⟨#[]⟩, .int .i64 0, .int .i64 0, .slice none 0 0] 24)).alloc (.cells #[.int .i64 0, .int .i64 0] 34)).alloc (.cells #[.int .i64 0] 27)).alloc (.cells #[.pointer none] 101)) _ _ (by simp)
  have b6 : Blk _ (w.heap.size + 5) 9 #[.string t] := Blk.new' (((((w.alloc (.cells #[.string ⟨#[]⟩, .int .i64 0, .int .i64 0, .slice none 0 0] 24)).alloc (.cells #[.int .i64 0, .int .i64 0] 34)).alloc (.cells #[.int .i64 0] 27)).alloc (.cells #[.pointer none] 101)).alloc (.cells #[.int .i64 0] 3)) _ _ (by simp)
  refine ⟨⟨(((((Blk.new w _ _).alloc _).alloc _).alloc _).alloc _).alloc _, (((b2.alloc _).alloc _).alloc _).alloc _, ((b3.alloc _).alloc _).alloc _, b5.alloc _, (b4.alloc _).alloc _, ?_, by simp⟩, b6, by simp⟩
  exact ((((((Below.refl _ _).alloc (Nat.le_refl _) _).alloc (by simp) _).alloc (by simp; omega) _).alloc (by simp; omega) _).alloc (by simp; omega) _).alloc (by simp; omega) _

set_option maxRecDepth 100000 in
set_option maxHeartbeats 8000000 in
theorem parse_any (t : ByteArray) (w : World) (hL : LibW w) :
    Calls Tryz.prog 10 #[.string t] w (ParseR t w) := by
  by_cases hbig : 60000 < t.size
  · have HE : Hid (parseT t = (joZ, (0, 0), 8)) := Lib.hid (if_pos hbig)
    have hbI : (60000 : Int) < (t.size : Int) := by omega
    go_enter Tryz.func10, Tryz.ntmps10
    go_wp2
    have br := ((Blk.new w 24 #[.string ⟨#[]⟩, .int .i64 0, .int .i64 0, .slice none 0 0]).alloc (.cells #[.int .i64 0, .int .i64 0] 34)).alloc (.cells #[.int .i64 8] 27)
    have bm := (Blk.new' (w.alloc (.cells #[.string ⟨#[]⟩, .int .i64 0, .int .i64 0, .slice none 0 0] 24)) 34 #[.int .i64 0, .int .i64 0] (g := w.heap.size + 1) (by simp)).alloc (.cells #[.int .i64 8] 27)
    have be := Blk.new' ((w.alloc (.cells #[.string ⟨#[]⟩, .int .i64 0, .int .i64 0, .slice none 0 0] 24)).alloc (.cells #[.int .i64 0, .int .i64 0] 34)) 27 #[.int .i64 8] (g := w.heap.size + 1 + 1) (by simp)
    obtain ⟨r0, r1, r2, r3, rf⟩ := blk4 br
    obtain ⟨m0, m1⟩ := blk2c bm
    have e0 := be.cell 0
    simp at e0
    exact bodyPost_ret (v := .tuple #[.agg #[.string ⟨#[]⟩, .int .i64 0, .int .i64 0, .slice none 0 0], .agg #[.int .i64 0, .int .i64 0], .int .i64 8]) (by simp [results, Tryz.results10, go_sem, r0, r1, r2, r3, m0, m1, e0]) rfl (ParseR.zero HE.out ((((Below.refl _ _).alloc (Nat.le_refl _) _).alloc (by simp) _).alloc (by simp; omega) _))
  · have HL : Hid (parseT t = parseL 0 none (linesR t.data.toList)) := Lib.hid (if_neg hbig)
    have hts : t.size ≤ 60000 := by omega
    have hbI : ¬ (60000 : Int) < (t.size : Int) := by omega
    have HT : Hid (t.data.toList.length ≤ 60000) := Lib.hid (by rw [Array.length_toList]; exact hts)
    have HLIB := Lib.hid hL
    clear hbig hL
    refine callsIn_wide.1 (callsIn_of_wp_marks (F := Fence.wide) (n := 5) Tryz.func10 rfl trivial (wpIn_wide.2 ?_) rfl)
    simp only [Tryz.ntmps10, List.size_toArray, List.length_cons, List.length_nil, Nat.reduceAdd, Nat.reduceSub, Array.replicate_succ, Array.replicate_zero, List.push_toArray, List.append_toArray, List.nil_append, List.cons_append]
    go_wp2_with fail
    refine (lines_any t _).mono ?_
    rintro e wb ⟨rfl, hwb⟩
    obtain ⟨hP0, hBx, hz6⟩ := pa_start w t
    rw [← hwb] at hP0 hBx hz6
    clear hwb
    simp only [World.size_alloc, Nat.add_assoc, Nat.reduceAdd]
    obtain ⟨n, hn⟩ : ∃ n, w.heap.size = n := ⟨_, rfl⟩
    rw [hn] at hP0 hBx hz6 ⊢
    obtain ⟨L, hLL⟩ : ∃ L, linesR t.data.toList = L := ⟨_, rfl⟩
    have HPL := Lib.hid (pieces_len t.data.toList)
    rw [hLL] at HL HPL
    have HLL := Lib.hid hLL
    clear hLL
    try dsimp only
    go_wp2_with fail
    refine wpIn_wide.1 (wpIn_rangeFunc_box (n := 5) rfl (by omega) (gf := 76) (lb := #[.pointer (some ⟨n + 5, 0, none⟩)]) rfl trivial (enters_of Tryz.func76 (by kernel_rfl) rfl) (encs := fun x : ByteArray => #[Value.string x]) (Bx := n + 5) (t := 9) (v0 := .string t) (xs := (linesY t.data.toList).map strB)
      (lines_seq 4 (by omega) (n + 5) t (by omega)) hBx (fun _ => rfl) (PaN w n L) (fun c _ W => PaX w n L c W) ?hI ?hIx ?hIb ?h0 (fun x => ⟨#[.string t, undef, .pointer (some ⟨n, 0, none⟩), .pointer (some ⟨n + 1, 0, none⟩), .pointer (some ⟨n + 2, 0, none⟩), .pointer (some ⟨n + 3, 0, none⟩), .pointer (some ⟨n + 4, 0, none⟩), .string x, undef, undef, undef, .string t, .int .i64 t.size, .bool false, undef, undef, .string t, .func (.func 76) #[] #[.pointer (some ⟨n + 5, 0, none⟩)], .string x, undef, undef, undef, undef, undef, undef, undef, undef, undef, undef, undef, undef, undef, undef, undef, undef, undef, undef, undef, undef, undef, undef, undef, undef, undef, undef, undef, undef, undef, undef, undef, undef, undef, undef, undef, undef, undef], []⟩) ?assign ?body ?done ?stop)
    case hI =>
      rintro pre X Y row ⟨st, hp, hq⟩ hg hr
      exact ⟨st, hp.kept (by have := hp.size; omega) hg (fun r e => by have := (hr r e).1; omega) (fun g ob hgo ho hc e => by
        obtain ⟨o', ho', hc'⟩ := (hr g e.symm).2
        rw [ho] at ho'; cases ho'; rw [hc] at hc'; cases hc'), hq⟩
    case hIx =>
      rintro c pre X Y row hx hg hr
      exact hx.kept hg (fun r e => by have := (hr r e).1; omega)
    case hIb =>
      rintro pre X Y ⟨st, hp, hq⟩ hg
      exact ⟨st, hp.kept (by have := hp.size; omega) hg (fun r e => by cases e; omega) (fun g ob hgo _ _ e => by cases e; omega), hq⟩
    case h0 => exact ⟨none, hP0, rfl⟩
    case assign =>
      intro l x W K hK
      dsimp only [List.zip_cons_cons]
      gi_wp2
      exact hK
    case body =>
      intro l pre x W hl hpx hI
      clear hP0 hBx
      rw [hz6] at hl ⊢
      obtain ⟨st, hPI, heq⟩ := hI
      obtain ⟨hkL, hdr, hxs⟩ := piece hpx
      rw [HLL.out] at hkL hdr
      rw [hdr] at heq
      have hxs2 : x.size ≤ 60000 := Nat.le_trans hxs HT.out
      have hkb : pre.length ≤ 60000 := by have h1 := HPL.out.2; have h2 := HT.out; omega
      have HEQ := Lib.hid heq
      have c4 : W.cell? ⟨n + 4, 0, none⟩ = some (.int .i64 (pre.length : Nat)) := hPI.bc.cell 0
      have f4 : ∀ i, W.frozen? ⟨n + 4, i, none⟩ = false := hPI.bc.frozen
      have l4 := hPI.bc.lt
      have HPI := Lib.hid hPI
      clear hdr heq hPI hpx hkL
      gi_upto_region 8 with (refine ⟨trivial, ?_⟩)
      have hP1 : PaI w n (pre.length + 1) st (W.setCell ⟨n + 4, 0, none⟩ (.int .i64 ((pre.length : Int) + 1))) := by have h1 := HPI.out.count (pre.length + 1); simpa using h1
      have hR1 : Rd n W (W.setCell ⟨n + 4, 0, none⟩ (.int .i64 ((pre.length : Int) + 1))) := (Rd.refl n W).set _ (by simp) _
      clear c4 f4 l4
      generalize W.setCell ⟨n + 4, 0, none⟩ (.int .i64 ((pre.length : Int) + 1)) = W1 at *
      refine pReg8 (cb := n + 4) (k := pre.length + 1) x (by omega) hP1.bc _ ?_
      intro t21 t22 t23 t24 Aw cw W2 Rw hB2
      have hlz := trimS_len x.data.toList
      have hxl : x.data.toList.length = x.size := arr_len_ x
      generalize trimSuffix x.data.toList [10] = ln at *
      have hszb : (strB ln).size ≤ 60000 := by rw [strB_size]; omega
      have hwl : (lineWs ln).length ≤ 60000 := by rw [lineWs_len]; exact Nat.le_trans (lineW_len _) hszb
      have HWS : Hid (∀ p ∈ lineWs ln, p.1.size ≤ 100000 ∧ 0 ≤ p.2 ∧ p.2 ≤ 1000001) := Lib.hid (fun p hp => by
        have h1 := lineWs_size ln hszb p hp
        omega)
      have hz1 := hP1.size
      have hP2 := hP1.gr hB2
      have hR2 := hR1.gr hB2 (by omega)
      have hz2 := hP2.size
      clear hP1 hR1 hB2 hlz hxl hszb hz1 HPI
      by_cases hws : lineWs ln = []
      · have HN : Hid (parseL 0 none L = parseL (pre.length + 1) st (L.drop (pre.length + 1))) := Lib.hid (by rw [HEQ.out, parseL_skip hws])
        have h0 : (lineWs ln).length = 0 := by rw [hws]; rfl
        have HP2 := Lib.hid hP2
        have HR2 := Lib.hid hR2
        rw [h0]
        clear h0 hwl Rw hP2 hR2
        try dsimp only
        gi_wp2_with (refine ⟨trivial, ?_⟩)
        refine ⟨HR2.out.from_, HR2.out.box, st, ?_, ?_⟩
        · rw [List.length_append]; exact HP2.out
        · rw [List.length_append]; exact HN.out
      · have hpos : 0 < (lineWs ln).length := List.length_pos_iff.2 hws
        have gw : (((lineWs ln).length : Int) == 0) = false := beq_eq_false_iff_ne.2 (by omega)
        have HLW : Hid (LibW W2) := Lib.hid (HLIB.out.below hP2.below (by omega))
        cases st with
        | none =>
          have o3 : W2.cell? ⟨n + 3, 0, none⟩ = some (.pointer none) := Blk.cell (show Blk W2 (n + 3) 101 #[.pointer none] from hP2.bo) 0
          have f3 : ∀ i, W2.frozen? ⟨n + 3, i, none⟩ = false := Blk.frozen (show Blk W2 (n + 3) 101 #[.pointer none] from hP2.bo)
          have l3 : n + 3 < W2.heap.size := by omega
          have bf4 := (Blk.new W2 109 #[.int .i64 0, .int .i64 0, .int .i64 0]).alloc (.cells #[.string ⟨#[]⟩, .int .i64 0, .int .i64 0, .slice none 0 0] 24)
          have bj4 := Blk.new' (W2.alloc (.cells #[.int .i64 0, .int .i64 0, .int .i64 0] 109)) 24 #[.string ⟨#[]⟩, .int .i64 0, .int .i64 0, .slice none 0 0] (g := W2.heap.size + 1) (by simp)
          have hal : Gr W2 ((W2.alloc (.cells #[.int .i64 0, .int .i64 0, .int .i64 0] 109)).alloc (.cells #[.string ⟨#[]⟩, .int .i64 0, .int .i64 0, .slice none 0 0] 24)) := ((Below.refl _ _).alloc (Nat.le_refl _) _).alloc (by simp) _
          have HP2 := Lib.hid hP2
          have HR2 := Lib.hid hR2
          clear hP2 hR2
          try dsimp only
          gi_wp2_with fail
          refine ⟨trivial, ?_⟩
          gi_at_call 41
          refine (CallsIn.inRound l (callsIn_wide.2 (joint_any ((pre.length + 1 : Nat) : Int) (lineWs ln) Aw cw W2.heap.size _ (HLW.out.below hal (Nat.le_refl _)) (by omega) hpos HWS.out ((Rw.alloc (Nat.le_refl _) _).alloc (by simp) _) (by simp; omega)))).mono ?_
          rintro e W5 ⟨ML, MC, rfl, HMK0, hB5⟩
          have hP5 := (HP2.out.gr hal).gr hB5
          have hR5 := (HR2.out.gr hal (by omega)).gr hB5 (by simp; omega)
          have bf5 := bf4.gr hB5
          have bj5 := bj4.gr hB5
          unfold jtV
          obtain ⟨⟨nm, th, zo⟩, kk, er, hq⟩ : ∃ (q : ByteArray × Int × Int) (kk : Nat) (er : Int), headP (lineWs ln) = (q, kk, er) := ⟨_, _, _, rfl⟩
          have HMK : Hid (er ≠ 0 → ML = (pre.length : Int) + 1 ∧ MC = colW (lineWs ln) (stepP none (lineWs ln)).2.1) := Lib.hid (fun h => by
            have h1 := HMK0.out (by rw [hq]; exact h)
            have h2 : (stepP none (lineWs ln)).2.1 = (headP (lineWs ln)).2.1 := rfl
            rw [h2]
            exact ⟨by rw [h1.1]; rfl, h1.2⟩)
          have HST : Hid ((stepP none (lineWs ln)).1 = some ⟨nm, th, zo, []⟩ ∧ er = (stepP none (lineWs ln)).2.2) := Lib.hid (by
            have h2 : stepP none (lineWs ln) = (some ⟨(headP (lineWs ln)).1.1, (headP (lineWs ln)).1.2.1, (headP (lineWs ln)).1.2.2, []⟩, (headP (lineWs ln)).2) := rfl
            rw [h2, hq]
            exact ⟨rfl, rfl⟩)
          rw [hq]
          have HQ := HEQ
          clear HMK0 hq bf4 bj4 hal o3 f3 l3 hB5 HP2 HR2 HEQ
          generalize W2.heap.size = fb at *
          have o3 : W5.cell? ⟨n + 3, 0, none⟩ = some (.pointer none) := Blk.cell (show Blk W5 (n + 3) 101 #[.pointer none] from hP5.bo) 0
          have f3 : ∀ i, W5.frozen? ⟨n + 3, i, none⟩ = false := Blk.frozen (show Blk W5 (n + 3) 101 #[.pointer none] from hP5.bo)
          have l3 : n + 3 < W5.heap.size := by have := hP5.size; omega
          obtain ⟨f0, f1, f2, ff⟩ := blk3 bf5
          have lf := bf5.lt
          obtain ⟨j0, j1, j2, j3, jf⟩ := blk4 bj5
          have lj := bj5.lt
          have q1 : ¬ fb = fb + 1 := by omega
          have q2 : ¬ n + 3 = fb := by omega
          have q3 : ¬ n + 3 = fb + 1 := by omega
          have q4 : ¬ fb = n + 3 := by omega
          have q5 : ¬ fb + 1 = n + 3 := by omega
          have q6 : ¬ fb + 1 = fb := by omega
          have hP6 := hP5.head (jb := fb + 1) (fb := fb) (by omega) (by omega) q1 bj5 nm th zo ML MC er
          have hR6 := ((((((((hR5.set ⟨fb + 1, 0, none⟩ (by simp only; omega) (.string nm)).set ⟨fb + 1, 1, none⟩ (by simp only; omega) (.int .i64 th)).set ⟨fb + 1, 2, none⟩ (by simp only; omega) (.int .i64 zo)).set ⟨fb + 1, 3, none⟩ (by simp only; omega) (.slice none 0 0)).set ⟨fb, 0, none⟩ (by simp only; omega) (.int .i64 ML)).set ⟨fb, 1, none⟩ (by simp only; omega) (.int .i64 MC)).set ⟨fb, 2, none⟩ (by simp only; omega) (.int .i64 er)).set ⟨n + 3, 0, none⟩ (by simp) (.pointer (some ⟨fb + 1, 0, none⟩)))
          have bf6 : Blk _ fb 109 #[.int .i64 ML, .int .i64 MC, .int .i64 er] := ((((bf5.far4 (p := fb + 1) q1 (.string nm) (.int .i64 th) (.int .i64 zo) (.slice none 0 0)).set_ 0 (.int .i64 ML)).set_ 1 (.int .i64 MC)).set_ 2 (.int .i64 er)).far (p := ⟨n + 3, 0, none⟩) q4 (.pointer (some ⟨fb + 1, 0, none⟩))
          have HX6 := Lib.hid (And.intro hP6 (And.intro hR6 bf6))
          clear hP6 hR6 bf6 hP5 hR5 bf5 bj5
          try dsimp only
          gi_upto_region 16 with (refine ⟨trivial, ?_⟩)
          obtain ⟨hP6, hR6, bf6⟩ := HX6.out
          clear HX6 o3 f3 l3 f0 f1 f2 ff lf j0 j1 j2 j3 jf lj
          generalize ((((((((W5.setCell ⟨fb + 1, 0, none⟩ (.string nm)).setCell ⟨fb + 1, 1, none⟩ (.int .i64 th)).setCell ⟨fb + 1, 2, none⟩ (.int .i64 zo)).setCell ⟨fb + 1, 3, none⟩ (.slice none 0 0)).setCell ⟨fb, 0, none⟩ (.int .i64 ML)).setCell ⟨fb, 1, none⟩ (.int .i64 MC)).setCell ⟨fb, 2, none⟩ (.int .i64 er)).setCell ⟨n + 3, 0, none⟩ (.pointer (some ⟨fb + 1, 0, none⟩))) = W6 at *
          have br6 := hP6.br; have bm6 := hP6.bm; have be6 := hP6.be
          have f0 := bf6.cell 0
          have f1 := bf6.cell 1
          have f2 := bf6.cell 2
          simp at f0 f1 f2
          have lf6 := bf6.lt
          have HK6 := Lib.hid hP6; have HR6 := Lib.hid hR6
          clear hP6 hR6
          by_cases her : er = 0
          · have gz : (er != 0) = false := by rw [her]; rfl
            have HE := Lib.hid her; clear her
            have HN : Hid (parseL 0 none L = parseL (pre.length + 1) (some ⟨nm, th, zo, []⟩) (L.drop (pre.length + 1))) := Lib.hid (by rw [HQ.out, parseL_go hws (by rw [← HST.out.2]; exact HE.out), HST.out.1])
            clear br6 bm6 be6 bf6
            gi_wp2_with (refine ⟨trivial, ?_⟩)
            refine ⟨HR6.out.from_, HR6.out.box, (some ⟨nm, th, zo, []⟩), ?_, ?_⟩
            · rw [List.length_append]; exact HK6.out
            · rw [List.length_append]; exact HN.out
          · have gz : (er != 0) = true := by simpa using her
            have HN : Hid (parseL 0 none L = (joZ, (ML, MC), er)) := Lib.hid (by
              have hm := HMK.out her
              rw [HQ.out, parseL_bad hws (by rw [← HST.out.2]; exact her), ← HST.out.2, hm.1, hm.2]
              )
            have HB6 := Lib.hid HK6.out.below
            gi_upto_region 17 with (refine ⟨trivial, ?_⟩)
            refine pReg17 (rb := n) (mb := n + 1) (eb := n + 2) br6 bm6 be6 bf6 (by omega) (by omega) (by omega) (by omega) (by omega) (by omega) _ ?_
            intro t41 t42 t43 t44 t45 w7 hr hm he hK3
            dsimp only
            gi_wp2
            exact ⟨HR6.out.from_.trans (hK3.from_ (by omega) (by omega) (by omega)), rfl, ML, MC, er, HN.out, hr, hm, he, HB6.out.trans (hK3.below (by have := HK6.out.size; omega) (by omega) (by omega) (by omega)), Nat.le_trans HK6.out.size hK3.size⟩
        | some j =>
          obtain ⟨jb, A, c, hj, b1, b2, o, hl12⟩ := hP2.bo
          have o3 : W2.cell? ⟨n + 3, 0, none⟩ = some (.pointer (some ⟨jb, 0, none⟩)) := b1.cell 0
          have l3 : n + 3 < W2.heap.size := by omega
          have hal : Gr W2 (W2.alloc (.cells #[.int .i64 0, .int .i64 0, .int .i64 0] 109)) := (Below.refl _ _).alloc (Nat.le_refl _) _
          have bf4 := Blk.new W2 109 #[.int .i64 0, .int .i64 0, .int .i64 0]
          have hP3 := hP2.gr hal
          have hR3 := hR2.gr hal (by omega)
          have b13 := b1.gr hal
          have b23 := b2.gr hal
          have o33 := own_below o hal
          have HX3 := Lib.hid (And.intro hP3 (And.intro hR3 (And.intro b13 (And.intro b23 (And.intro o33 bf4)))))
          clear hP2 hR2 hP3 hR3 b13 b23 o33 bf4 b1 b2 o
          try dsimp only
          gi_wp2_with fail
          refine ⟨trivial, ?_⟩
          gi_at_call 42
          obtain ⟨hP3, hR3, b13, b23, o33, bf4⟩ := HX3.out
          refine (CallsIn.inRound l (callsIn_wide.2 (add_any ((pre.length + 1 : Nat) : Int) j (lineWs ln) Aw A cw c W2.heap.size jb (n + 6) _ (HLW.out.below hal (Nat.le_refl _)) (by omega) hpos HWS.out (Rw.alloc (Nat.le_refl _) _) (by simp) b23 o33 (by simp; omega) hl12))).mono ?_
          rintro e W5 ⟨ML, MC, rfl, HMK0, hAR⟩
          obtain ⟨hP5, hRd, hfk⟩ := hP3.add hj b13 b23 o33 hl12 (faceP_room hl12) hAR
          have hR5 := hR3.trans hRd
          have bf5 := hfk bf4
          obtain ⟨er, hq⟩ : ∃ er, (faceP j (lineWs ln)).2.2 = er := ⟨_, rfl⟩
          have HMK : Hid (er ≠ 0 → ML = (pre.length : Int) + 1 ∧ MC = colW (lineWs ln) (stepP (some j) (lineWs ln)).2.1) := Lib.hid (fun h => by
            have h1 := HMK0.out (by rw [hq]; exact h)
            have h2 : (stepP (some j) (lineWs ln)).2.1 = (faceP j (lineWs ln)).2.1 := rfl
            rw [h2]
            exact ⟨by rw [h1.1]; rfl, h1.2⟩)
          have HST : Hid ((stepP (some j) (lineWs ln)).1 = some (joF j (faceP j (lineWs ln)).1) ∧ er = (stepP (some j) (lineWs ln)).2.2) := Lib.hid (by
            have h2 : stepP (some j) (lineWs ln) = (some (joF j (faceP j (lineWs ln)).1), (faceP j (lineWs ln)).2) := rfl
            rw [h2]
            exact ⟨rfl, hq.symm⟩)
          rw [hq]
          have HQ := HEQ
          clear HMK0 hq HX3 hal o3 l3 HEQ hP3 hR3 b13 b23 o33 bf4 hfk hRd hAR
          generalize W2.heap.size = fb at *
          obtain ⟨f0, f1, f2, ff⟩ := blk3 bf5
          have lf := bf5.lt
          have hP6 := hP5.fault (fb := fb) (by omega) bf5 ML MC er
          have hR6 := ((hR5.set ⟨fb, 0, none⟩ (by simp only; omega) (.int .i64 ML)).set ⟨fb, 1, none⟩ (by simp only; omega) (.int .i64 MC)).set ⟨fb, 2, none⟩ (by simp only; omega) (.int .i64 er)
          have bf6 : Blk _ fb 109 #[.int .i64 ML, .int .i64 MC, .int .i64 er] := ((bf5.set_ 0 (.int .i64 ML)).set_ 1 (.int .i64 MC)).set_ 2 (.int .i64 er)
          have HX6 := Lib.hid (And.intro hP6 (And.intro hR6 bf6))
          clear hP6 hR6 bf6 hP5 hR5 bf5
          try dsimp only
          gi_upto_region 16 with (refine ⟨trivial, ?_⟩)
          obtain ⟨hP6, hR6, bf6⟩ := HX6.out
          clear HX6 f0 f1 f2 ff lf
          generalize (((W5.setCell ⟨fb, 0, none⟩ (.int .i64 ML)).setCell ⟨fb, 1, none⟩ (.int .i64 MC)).setCell ⟨fb, 2, none⟩ (.int .i64 er)) = W6 at *
          have br6 := hP6.br; have bm6 := hP6.bm; have be6 := hP6.be
          have f0 := bf6.cell 0
          have f1 := bf6.cell 1
          have f2 := bf6.cell 2
          simp at f0 f1 f2
          have lf6 := bf6.lt
          have HK6 := Lib.hid hP6; have HR6 := Lib.hid hR6
          clear hP6 hR6
          by_cases her : er = 0
          · have gz : (er != 0) = false := by rw [her]; rfl
            have HE := Lib.hid her; clear her
            have HN : Hid (parseL 0 none L = parseL (pre.length + 1) (some (joF j (faceP j (lineWs ln)).1)) (L.drop (pre.length + 1))) := Lib.hid (by rw [HQ.out, parseL_go hws (by rw [← HST.out.2]; exact HE.out), HST.out.1])
            clear br6 bm6 be6 bf6
            gi_wp2_with (refine ⟨trivial, ?_⟩)
            refine ⟨HR6.out.from_, HR6.out.box, (some (joF j (faceP j (lineWs ln)).1)), ?_, ?_⟩
            · rw [List.length_append]; exact HK6.out
            · rw [List.length_append]; exact HN.out
          · have gz : (er != 0) = true := by simpa using her
            have HN : Hid (parseL 0 none L = (joZ, (ML, MC), er)) := Lib.hid (by
              have hm := HMK.out her
              rw [HQ.out, parseL_bad hws (by rw [← HST.out.2]; exact her), ← HST.out.2, hm.1, hm.2]
              )
            have HB6 := Lib.hid HK6.out.below
            gi_upto_region 17 with (refine ⟨trivial, ?_⟩)
            refine pReg17 (rb := n) (mb := n + 1) (eb := n + 2) br6 bm6 be6 bf6 (by omega) (by omega) (by omega) (by omega) (by omega) (by omega) _ ?_
            intro t41 t42 t43 t44 t45 w7 hr hm he hK3
            dsimp only
            gi_wp2
            exact ⟨HR6.out.from_.trans (hK3.from_ (by omega) (by omega) (by omega)), rfl, ML, MC, er, HN.out, hr, hm, he, HB6.out.trans (hK3.below (by have := HK6.out.size; omega) (by omega) (by omega) (by omega)), Nat.le_trans HK6.out.size hK3.size⟩
    case done =>
      clear hP0 hBx
      rintro D W hD ⟨st, hp, hq⟩ hdf
      have HMC : Hid (Marks n [D] W) := Lib.hid ((Marks.nil _ _).cons (fun _ h => by cases h) hD (by omega) hdf)
      have hlen := HPL.out.1
      have hlen2 := HPL.out.2
      have hT2 := HT.out
      rw [← hlen, List.drop_length] at hq
      rw [← hlen] at hp
      have hDs : D < W.heap.size := (Array.getElem?_eq_some_iff.1 hdf).1
      have hsz := hp.size
      clear hlen hdf
      cases st with
      | none =>
        rw [parseL_end0] at hq
        have HP : Hid (parseT t = (joZ, ((L.length : Int) + 1, 1), 6)) := Lib.hid (by rw [HL.out, hq])
        have o3 : W.cell? ⟨n + 3, 0, none⟩ = some (.pointer none) := Blk.cell (show Blk W (n + 3) 101 #[.pointer none] from hp.bo) 0
        have l3 : n + 3 < W.heap.size := by omega
        have HPP := Lib.hid hp
        clear hq hp
        simp only [Exit.inBlock, Exit.then]
        go_upto_region 19 with fail
        refine pReg19 (rb := n) (mb := n + 1) (eb := n + 2) HPP.out.br HPP.out.bm HPP.out.be (cb := n + 4) (k := L.length) (by omega) HPP.out.bc (by omega) (by omega) (by omega) (by omega) (by omega) (by omega) _ ?_
        intro t48 t49 t50 t51 w7 hr hm he hK3
        have HM7 : Hid (Marks n [D] w7) := Lib.hid (HMC.out.keep (fun D' hD' => by
          obtain rfl : D' = D := by simpa using hD'
          exact hK3.same _ hDs (by omega) (by omega) (by omega)))
        have HB7 := Lib.hid (HPP.out.below.trans (hK3.below (by omega) (by omega) (by omega) (by omega)))
        try dsimp only
        go_wp2
        refine ret_marks (n₀ := n) (Ds := [D]) HM7.out fun w' hs => ⟨.tuple #[.agg #[.string ⟨#[]⟩, .int .i64 0, .int .i64 0, .slice none 0 0], .agg #[.int .i64 ((L.length : Int) + 1), .int .i64 1], .int .i64 6], ?_, ParseR.zero HP.out (by rw [hn]; exact HB7.out.trans hs.below)⟩
        obtain ⟨r0, r1, r2, r3, rf⟩ := blk4 (hs.blk hr)
        obtain ⟨m0, m1⟩ := blk2c (hs.blk hm)
        have e0 := (hs.blk he).cell 0
        simp at e0
        simp [results, Tryz.results10, go_sem, r0, r1, r2, r3, m0, m1, e0]
      | some j =>
        rw [parseL_end1] at hq
        have HP : Hid (parseT t = (j, (0, 0), 0)) := Lib.hid (by rw [HL.out, hq])
        obtain ⟨jb, A, c, hj, b1, b2, o, hl⟩ := hp.bo
        have o3 : W.cell? ⟨n + 3, 0, none⟩ = some (.pointer (some ⟨jb, 0, none⟩)) := b1.cell 0
        have l3 : n + 3 < W.heap.size := by omega
        have HPP := Lib.hid hp
        have HO := Lib.hid o
        clear hq hp o
        simp only [Exit.inBlock, Exit.then]
        go_upto_region 20 with fail
        refine pReg20 (rb := n) (mb := n + 1) (eb := n + 2) HPP.out.br HPP.out.bm HPP.out.be (ob := n + 3) (jb := jb) (j := j) (A := A) (c := c) b1 b2 (by omega) (by omega) (by omega) _ ?_
        intro t52 t53 t54 t55
        obtain ⟨hr, hm, he⟩ := fin4_blk HPP.out.br HPP.out.bm HPP.out.be (by omega) (by omega) (by omega) (.string j.nm) (.int .i64 j.thick) (.int .i64 j.zone) (.slice A j.fs.length c) (.int .i64 0) (.int .i64 0) (.int .i64 0)
        have HM7 : Hid (Marks n [D] (fin4 W n (n + 1) (n + 2) (.string j.nm) (.int .i64 j.thick) (.int .i64 j.zone) (.slice A j.fs.length c) (.int .i64 0) (.int .i64 0) (.int .i64 0))) := Lib.hid (HMC.out.keep (fun D' hD' => by
          obtain rfl : D' = D := by simpa using hD'
          exact fin4_same _ _ _ _ _ _ _ (by omega) (by omega) (by omega)))
        have HB7 := Lib.hid (fin4_below HPP.out.below (show n ≤ n by omega) (show n ≤ n + 1 by omega) (show n ≤ n + 2 by omega) (.string j.nm) (.int .i64 j.thick) (.int .i64 j.zone) (.slice A j.fs.length c) (.int .i64 0) (.int .i64 0) (.int .i64 0))
        have HO7 := Lib.hid (own_fin4 HO.out (rb := n) (mb := n + 1) (eb := n + 2) (by omega) (by omega) (by omega) (.string j.nm) (.int .i64 j.thick) (.int .i64 j.zone) (.slice A j.fs.length c) (.int .i64 0) (.int .i64 0) (.int .i64 0))
        generalize fin4 W n (n + 1) (n + 2) (.string j.nm) (.int .i64 j.thick) (.int .i64 j.zone) (.slice A j.fs.length c) (.int .i64 0) (.int .i64 0) (.int .i64 0) = w7 at *
        try dsimp only
        go_wp2
        refine ret_marks (n₀ := n) (Ds := [D]) HM7.out fun w' hs => ⟨.tuple #[.agg #[.string j.nm, .int .i64 j.thick, .int .i64 j.zone, .slice A j.fs.length c], .agg #[.int .i64 0, .int .i64 0], .int .i64 0], ?_, ParseR.joint HP.out (Shut.joR hs HO7.out) (by rw [hn]; exact HB7.out.trans hs.below)⟩
        obtain ⟨r0, r1, r2, r3, rf⟩ := blk4 (hs.blk hr)
        obtain ⟨m0, m1⟩ := blk2c (hs.blk hm)
        have e0 := (hs.blk he).cell 0
        simp at e0
        simp [results, Tryz.results10, go_sem, r0, r1, r2, r3, m0, m1, e0]
    case stop =>
      clear hP0 hBx
      rintro D c pre W hD hpre ⟨rfl, ml, mc, er, hq, hr, hm, he, hB, hzW⟩ hdf
      have HMC : Hid (Marks n [D] W) := Lib.hid ((Marks.nil _ _).cons (fun _ h => by cases h) hD (by omega) hdf)
      have HP : Hid (parseT t = (joZ, (ml, mc), er)) := Lib.hid (by rw [HL.out]; exact hq)
      clear hq hdf
      gi_wp2
      refine ret_marks (n₀ := n) (Ds := [D]) HMC.out fun w' hs => ⟨.tuple #[.agg #[.string ⟨#[]⟩, .int .i64 0, .int .i64 0, .slice none 0 0], .agg #[.int .i64 ml, .int .i64 mc], .int .i64 er], ?_, ParseR.zero HP.out (by rw [hn]; exact hB.trans hs.below)⟩
      obtain ⟨r0, r1, r2, r3, rf⟩ := blk4 (hs.blk hr)
      obtain ⟨m0, m1⟩ := blk2c (hs.blk hm)
      have e0 := (hs.blk he).cell 0
      simp at e0
      simp [results, Tryz.results10, go_sem, r0, r1, r2, r3, m0, m1, e0]
end Go.Proofs.YtaekcfancfoccaaGreatDoor
