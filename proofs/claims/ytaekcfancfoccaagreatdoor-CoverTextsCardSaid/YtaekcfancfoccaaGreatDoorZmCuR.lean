/- The loop of the reference's Parse. -/
import Derived.Test.YtaekcfancfoccaaGreatDoorZmCuQ
namespace Go.Proofs.YtaekcfancfoccaaGreatDoor
open Go.RowKit Go.Lib

structure JoR (j : Jo) (A : Option Addr) (c : Nat) (w : World) : Prop where
  row : Row w w.heap.size 5 A j.fs.length (fcsC j.fs)
  nil : A = Option.none → c = 0
  len : j.fs.length ≤ c
  cap : c ≤ 9223372036854775807
theorem JoR.gr {j : Jo} {A : Option Addr} {c : Nat} {w w' : World} (h : JoR j A c w) (hg : Gr w w') : JoR j A c w' := ⟨(h.row.below hg (Nat.le_refl _)).more (Below.size hg), h.nil, h.len, h.cap⟩
theorem JoR.far4 {j : Jo} {A : Option Addr} {c g : Nat} {w : World} (h : JoR j A c w) (hb : ∀ a, A = some a → a.block ≠ g) (u0 u1 u2 u3 : Value) : JoR j A c ((((w.setCell ⟨g, 0, none⟩ u0).setCell ⟨g, 1, none⟩ u1).setCell ⟨g, 2, none⟩ u2).setCell ⟨g, 3, none⟩ u3) :=
  ⟨⟨h.row.1, fun hn => by
    obtain ⟨b, o, e, hg, hc⟩ := h.row.2 hn
    have hne : b ≠ g := hb _ e
    refine ⟨b, o, e, by simpa [World.setCell] using hg, fun k u hk => ?_⟩
    have s : ∀ (w : World) (i : Nat) (u : Value), (w.setCell ⟨g, i, none⟩ u).cell? ⟨b, o + k, none⟩ = w.cell? ⟨b, o + k, none⟩ := fun w i u => World.cell?_setCell_other w _ _ u (fun e => hne (by injection e with e1; first | exact e1.symm | exact e1))
    rw [s, s, s, s]
    exact hc k u hk⟩, h.nil, h.len, h.cap⟩
theorem joZ_row (w : World) : JoR joZ none 0 w := ⟨Row.nil_, fun _ => rfl, Nat.le_refl _, by omega⟩
def joS : Option Jo → Jo
  | none => joZ
  | some j => j
theorem formP_k {L : ByteArray} {ws : List (ByteArray × Int)} : ∀ (n k : Nat), L.size - k = n → k ≤ L.size → (formP L ws k).1 ≤ L.size
  | 0, k, hn, h1 => by
    rw [formP_end (by omega)]
    split <;> simp
  | n + 1, k, hn, h1 => by
    have hk : k < L.size := by omega
    by_cases hl : k < ws.length
    · by_cases he : formE L[k] ws[k].1 = 0
      · rw [formP_go hk hl he]
        exact formP_k n (k + 1) (by omega) (by omega)
      · rw [formP_bad hk hl rfl he]; exact h1
    · rw [formP_out hk hl]; exact h1
theorem stepP_k (st : Option Jo) (ws : List (ByteArray × Int)) : (stepP st ws).2.1 ≤ 10 := by
  cases st with
  | none =>
    show (headP ws).2.1 ≤ 10
    have h := formP_k (L := headL) (ws := ws) 5 1 rfl (by decide)
    have h6 : headL.size = 6 := rfl
    unfold headP
    split
    · exact Nat.zero_le _
    · split
      · exact Nat.le_trans h (by omega)
      · split
        · exact (by decide : 3 ≤ 10)
        · split
          · exact (by decide : 5 ≤ 10)
          · exact Nat.zero_le _
  | some j =>
    show (faceP j ws).2.1 ≤ 10
    have h := formP_k (L := faceL) (ws := ws) 5 1 rfl (by decide)
    have h6 : faceL.size = 6 := rfl
    unfold faceP
    split
    · exact Nat.zero_le _
    · split
      · exact Nat.le_trans h (by omega)
      · repeat (split; · (first | exact Nat.zero_le _ | exact (by decide : 1 ≤ 10) | exact (by decide : 2 ≤ 10) | exact (by decide : 3 ≤ 10) | exact (by decide : 4 ≤ 10) | exact (by decide : 5 ≤ 10)))
        exact Nat.zero_le _
theorem own_row {w : World} {base e size n : Nat} {A : Option Addr} {c : Nat} {xs : List Value} (h : w.ownsRow base e size (.slice A n c) n xs) : Row w w.heap.size size A n xs := by
  obtain ⟨A', c', ex, R⟩ := Row.own h
  injection ex with a b c
  subst a
  exact R
theorem own_set4 {w : World} {base e size n jb : Nat} {v : Value} {xs : List Value} (h : w.ownsRow base e size v n xs) (hp : jb < base) (u0 u1 u2 u3 : Value) : ((((w.setCell ⟨jb, 0, none⟩ u0).setCell ⟨jb, 1, none⟩ u1).setCell ⟨jb, 2, none⟩ u2).setCell ⟨jb, 3, none⟩ u3).ownsRow base e size v n xs :=
  own_set (own_set (own_set (own_set h (p := ⟨jb, 0, none⟩) hp u0) (p := ⟨jb, 1, none⟩) hp u1) (p := ⟨jb, 2, none⟩) hp u2) (p := ⟨jb, 3, none⟩) hp u3
theorem KeepsTwo.set4 {jb : Nat} {row : Option Nat} {X Y : World} (h : KeepsTwo jb row X Y) (u0 u1 u2 u3 : Value) : KeepsTwo jb row X ((((Y.setCell ⟨jb, 0, none⟩ u0).setCell ⟨jb, 1, none⟩ u1).setCell ⟨jb, 2, none⟩ u2).setCell ⟨jb, 3, none⟩ u3) := (((h.set 0 u0).set 1 u1).set 2 u2).set 3 u3
theorem rFaceJ (j : Jo) (ws : List (ByteArray × Int)) (A Aw : Option Addr) (c cw N : Nat) (w : World) (hn : ws.length ≤ 1000000) (h0 : 0 < ws.length) (hs : ∀ p ∈ ws, p.1.size ≤ 1000000) (hR : Row w w.heap.size 2 Aw ws.length (wsC ws)) (hJ : JoR j A c w) (hlen : j.fs.length ≤ 12) (hab : ∀ a, A = some a → N ≤ a.block) (hN : N ≤ w.heap.size) :
    Calls Tryz.prog 46 #[.agg #[.string j.nm, .int .i64 j.thick, .int .i64 j.zone, .slice A j.fs.length c], .slice Aw ws.length cw] w fun e w' => ∃ (A' : Option Addr) (c' : Nat), e = .returned (.tuple #[.agg #[.string (joF j (faceP j ws).1).nm, .int .i64 (joF j (faceP j ws).1).thick, .int .i64 (joF j (faceP j ws).1).zone, .slice A' (joF j (faceP j ws).1).fs.length c'], .int .i64 ((faceP j ws).2.1 : Nat), .int .i64 (faceP j ws).2.2]) ∧
      JoR (joF j (faceP j ws).1) A' c' w' ∧ (∀ a, A' = some a → N ≤ a.block) ∧ Below w.heap.size w w' := by
  refine (rFace_any j ws A Aw c cw w.heap.size w hn h0 hs hR hJ.row (Nat.le_refl _) hlen hJ.nil).mono ?_
  rintro e w' ⟨A', c', rfl, pn, ps, hB⟩
  refine ⟨A', c', rfl, ?_, ?_, hB⟩
  · cases hq : (faceP j ws).1 with
    | none =>
      obtain ⟨rfl, rfl⟩ := pn hq
      exact hJ.gr hB
    | some p =>
      obtain ⟨r, n0, l, cp, _⟩ := ps p hq
      have e : (j.fs ++ [p]).length = j.fs.length + 1 := by simp
      exact ⟨by show Row w' w'.heap.size 5 A' (j.fs ++ [p]).length _; rw [e]; exact r, n0, by show (j.fs ++ [p]).length ≤ c'; rw [e]; exact l, cp⟩
  · cases hq : (faceP j ws).1 with
    | none =>
      obtain ⟨rfl, rfl⟩ := pn hq
      exact hab
    | some p =>
      obtain ⟨_, _, _, _, ha⟩ := ps p hq
      intro a e
      have := ha a e
      omega
theorem lineWs_len (l : List UInt8) : (lineWs l).length = (lineW (strB l)).length := by unfold lineWs wordsC; rw [List.length_map]
set_option maxRecDepth 100000 in
set_option maxHeartbeats 8000000 in
theorem rpLoop (L : List (List UInt8)) {W : World} {rb mb jb g cap : Nat} (br : Blk W rb 24 #[.string ⟨#[]⟩, .int .i64 0, .int .i64 0, .slice none 0 0]) (bm : Blk W mb 34 #[.int .i64 0, .int .i64 0]) (bj : Blk W jb 24 #[.string ⟨#[]⟩, .int .i64 0, .int .i64 0, .slice none 0 0]) (hrj : ¬ rb = jb) (hmj : ¬ mb = jb)
    (hg : g < W.heap.size) (hgj : ¬ g = jb) (hc : ∀ j (h : j < L.length), W.cell? ⟨g, j, none⟩ = some (.string (strB L[j]))) (hs : ∀ l ∈ L, l.length ≤ 60050) (hL : L.length ≤ 100000) {t0 t1 t4 t9 t10 t11 t12 t13 t14 t15 t16 t17 t18 t19 t20 t21 t22 t23 t24 t25 t26 t27 t28 t29 t30 t31 t32 t33 t34 t35 t36 t37 t38 t39 t40 t41 t42 t43 t44 t45 t46 t47 t48 t49 t50 t51 t52 t53 t54 t55 t56 t57 t58 t59 t60 t61 t62 t63 t64 t65 t66 t67 t68 t69 t70 t71 t72 t73 t74 t75 t76 : Value} {ds : List Deferred} (Q' : Exit → Act → World → Prop)
    (h1 : ∀ (t9 t10 t11 t31 t32 t33 t34 t35 t36 t37 t38 t39 t40 t41 t42 t43 t44 t45 t46 t47 t48 t49 t50 t51 t52 t53 t54 t55 t56 t57 t58 t59 t60 t61 t62 t63 t64 t65 t66 t67 t68 t7 t8 : Value) (l c e : Int) (w' : World), Hid (parseL 0 none L = (joZ, (l, c), e)) → Blk w' rb 24 #[.string ⟨#[]⟩, .int .i64 0, .int .i64 0, .slice none 0 0] → Blk w' mb 34 #[.int .i64 l, .int .i64 c] → (∀ B, B ≤ W.heap.size → B ≤ rb → B ≤ mb → B ≤ jb → Below B W w') → Q' .ret ⟨#[t0, t1, .pointer (some ⟨rb, 0, none⟩), .pointer (some ⟨mb, 0, none⟩), .int .i64 e, .slice (some ⟨g, 0, none⟩) L.length cap, .pointer (some ⟨jb, 0, none⟩), t7, t8, t9, t10, t11, t12, t13, t14, t15, t16, t17, t18, t19, t20, t21, t22, t23, t24, t25, t26, t27, t28, t29, t30, t31, t32, t33, t34, t35, t36, t37, t38, t39, t40, t41, t42, t43, t44, t45, t46, t47, t48, t49, t50, t51, t52, t53, t54, t55, t56, t57, t58, t59, t60, t61, t62, t63, t64, t65, t66, t67, t68, t69, t70, t71, t72, t73, t74, t75, t76], ds⟩ w')
    (h2 : ∀ (t9 t10 t11 t31 t32 t33 t34 t35 t36 t37 t38 t39 t40 t41 t42 t43 t44 t45 t46 t47 t48 t49 t50 t51 t52 t53 t54 t55 t56 t57 t58 t59 t60 t61 t62 t63 t64 t65 t66 t67 t68 t4 : Value) (st : Option Jo) (A : Option Addr) (c : Nat) (w' : World), Hid (parseL 0 none L = parseL L.length st []) → Blk w' jb 24 #[.string (joS st).nm, .int .i64 (joS st).thick, .int .i64 (joS st).zone, .slice A (joS st).fs.length c] → JoR (joS st) A c w' → (∀ a, A = some a → W.heap.size ≤ a.block) → KeepsTwo jb none W w' → Q' (.exit 0) ⟨#[t0, t1, .pointer (some ⟨rb, 0, none⟩), .pointer (some ⟨mb, 0, none⟩), t4, .slice (some ⟨g, 0, none⟩) L.length cap, .pointer (some ⟨jb, 0, none⟩), .bool st.isSome, .int .i64 L.length, t9, t10, t11, t12, t13, t14, t15, t16, t17, t18, t19, t20, t21, t22, t23, t24, t25, t26, t27, t28, t29, t30, t31, t32, t33, t34, t35, t36, t37, t38, t39, t40, t41, t42, t43, t44, t45, t46, t47, t48, t49, t50, t51, t52, t53, t54, t55, t56, t57, t58, t59, t60, t61, t62, t63, t64, t65, t66, t67, t68, t69, t70, t71, t72, t73, t74, t75, t76], ds⟩ w') :
    (Code.loop (bodyOf Tryz.f13 0)).wp Tryz.prog Q' ⟨#[t0, t1, .pointer (some ⟨rb, 0, none⟩), .pointer (some ⟨mb, 0, none⟩), t4, .slice (some ⟨g, 0, none⟩) L.length cap, .pointer (some ⟨jb, 0, none⟩), .bool false, .int .i64 0, t9, t10, t11, t12, t13, t14, t15, t16, t17, t18, t19, t20, t21, t22, t23, t24, t25, t26, t27, t28, t29, t30, t31, t32, t33, t34, t35, t36, t37, t38, t39, t40, t41, t42, t43, t44, t45, t46, t47, t48, t49, t50, t51, t52, t53, t54, t55, t56, t57, t58, t59, t60, t61, t62, t63, t64, t65, t66, t67, t68, t69, t70, t71, t72, t73, t74, t75, t76], ds⟩ W := by
  have H1 := Lib.hid h1; have H2 := Lib.hid h2
  have HC := Lib.hid hc; have HS := Lib.hid hs
  have hjW : jb < W.heap.size := bj.lt
  clear h1 h2 hc hs
  conv in (bodyOf _ _) => whnf
  dsimp only
  go_loopw [7, 8] (fun s7 s8 wr => ∃ (i : Nat) (st : Option Jo) (A : Option Addr) (c : Nat), s7 = .bool st.isSome ∧ s8 = .int .i64 i ∧ i ≤ L.length ∧ Hid (parseL 0 none L = parseL i st (L.drop i)) ∧ Blk wr jb 24 #[.string (joS st).nm, .int .i64 (joS st).thick, .int .i64 (joS st).zone, .slice A (joS st).fs.length c] ∧ JoR (joS st) A c wr ∧
    Hid ((joS st).fs.length ≤ 12) ∧ Hid (∀ a, A = some a → W.heap.size ≤ a.block) ∧ KeepsTwo jb none W wr) (fun _ i _ => L.length - (RowKit.intOf i).toNat)
  case atStart => exact ⟨0, none, none, 0, rfl, rfl, Nat.zero_le _, Lib.hid rfl, bj, joZ_row _, Lib.hid (by decide), Lib.hid (fun a h => by cases h), KeepsTwo.refl _ _ _⟩
  case round =>
    clear bj
    obtain ⟨i, st, A, c, rfl, rfl, hi, HP, bj, hJ, HRM, HAB, K2⟩ := hrel
    have hzr := K2.size
    by_cases hlt : i < L.length
    · have x0 := (World.cell?_of_block (a := ⟨g, i, none⟩) (K2.same g hg hgj (fun e => by cases e))).trans (HC.out i hlt)
      have hsz : L[i].length ≤ 60050 := HS.out _ (List.getElem_mem hlt)
      have hdr : L.drop i = L[i] :: L.drop (i + 1) := by rw [List.drop_eq_getElem_cons hlt]
      rw [hdr] at HP
      have hgr : g < wr.heap.size := by omega
      obtain ⟨l, hl⟩ : ∃ l, L[i] = l := ⟨_, rfl⟩
      rw [hl] at x0 hsz HP
      clear hdr hl
      have hszb : (strB l).size ≤ 60050 := by rw [strB_size]; exact hsz
      have hwl : (lineWs l).length ≤ 60050 := by rw [lineWs_len]; exact Nat.le_trans (lineW_len _) hszb
      have HWS : Hid (∀ p ∈ lineWs l, p.1.size ≤ 60050 ∧ 0 ≤ p.2 ∧ p.2 ≤ 60050) := Lib.hid (words_size (strB l) hszb)
      go_wp2_with fail
      refine (wordsOf_any (strB l) (by omega) _).mono ?_
      rintro e w2 ⟨v, rfl, own, hB2⟩
      rw [wdsC_eq, ← lineWs_len] at own
      obtain ⟨Aw, cw, rfl, Rw⟩ := Row.own own
      replace Rw : Row w2 w2.heap.size 2 Aw (lineWs l).length (wsC (lineWs l)) := Rw
      have HOW := Lib.hid own
      have hz2 := Below.size hB2
      have hjr0 : jb < wr.heap.size := bj.lt
      have bj2 := bj.gr hB2
      have hJ2 := hJ.gr hB2
      have K22 := K2.gr hB2
      clear own hB2 bj hJ K2 x0
      by_cases hws : lineWs l = []
      · have HP2 : Hid (parseL 0 none L = parseL (i + 1) st (L.drop (i + 1))) := Lib.hid (by rw [HP.out, parseL_skip hws])
        have h0 : (lineWs l).length = 0 := by rw [hws]; rfl
        rw [h0]
        clear h0 hwl Rw
        go_wp2_with fail
        exact ⟨⟨i + 1, st, A, c, rfl, by go_num, by omega, HP2, bj2, hJ2, HRM, HAB, K22⟩, by (first | (simp [RowKit.intOf]; done) | (simp [RowKit.intOf]; omega))⟩
      · have hpos : 0 < (lineWs l).length := List.length_pos_iff.2 hws
        have gw : (((lineWs l).length : Int) == 0) = false := beq_eq_false_iff_ne.2 (by omega)
        have HNW := Lib.hid hws
        clear hws
        have hk10 := stepP_k st (lineWs l)
        have hjr : jb < wr.heap.size := hjr0
        obtain ⟨b0, b1, b2, b3, bf0⟩ := blk4 bj2
        have lb := bj2.lt
        cases st with
        | none =>
          simp only [joS] at b0 b1 b2 b3 bj2 hJ2 HRM ⊢
          obtain ⟨q, hq⟩ : ∃ q, headP (lineWs l) = q := ⟨_, rfl⟩
          have hst : stepP none (lineWs l) = (some ⟨q.1.1, q.1.2.1, q.1.2.2, []⟩, q.2) := by unfold stepP; rw [hq]
          have hhead := rHead_any (lineWs l) Aw cw w2.heap.size w2 (by omega) hpos (fun p hp => by have := HWS.out p hp; omega) Rw (Nat.le_refl _)
          rw [hq] at hhead
          rw [hst] at hk10
          obtain ⟨⟨nm, th, zo⟩, k, n⟩ := q
          have HST := Lib.hid hst
          have HHD := Lib.hid hhead
          clear hq hst hhead Rw
          simp only at hk10
          by_cases hn0 : n = 0
          · subst hn0
            have HP2 : Hid (parseL 0 none L = parseL (i + 1) (some ⟨nm, th, zo, []⟩) (L.drop (i + 1))) := Lib.hid (by rw [HP.out, parseL_go HNW.out (by rw [HST.out]), HST.out])
            go_wp2_with (go_at_call 47; refine HHD.out.mono ?_; unfold hdV; rintro e w3 ⟨rfl, hB3⟩; have bj3 := bj2.gr hB3; have K23 := K22.gr hB3; clear b0 b1 b2 b3 bf0 lb bj2 K22; obtain ⟨b0, b1, b2, b3, bf0⟩ := blk4 bj3; have lb := bj3.lt; have BJ3 := Lib.hid bj3; have K3 := Lib.hid K23; clear bj3 K23)
            exact ⟨⟨i + 1, some ⟨nm, th, zo, []⟩, none, 0, rfl, by go_num, by omega, HP2, Blk.set4 BJ3.out _ _ _ _, ⟨Row.nil_, fun _ => rfl, Nat.le_refl _, by decide⟩, Lib.hid (by decide : 0 ≤ 12), Lib.hid (fun a h => by cases h), (((K3.out.set 0 _).set 1 _).set 2 _).set 3 _⟩, by (first | (simp [RowKit.intOf]; done) | (simp [RowKit.intOf]; omega))⟩
          · have HE : Hid (parseL 0 none L = (joZ, ((i : Int) + 1, colW (lineWs l) k), n)) := Lib.hid (by rw [HP.out, parseL_bad HNW.out (by rw [HST.out]; exact hn0), HST.out])
            have gn : (n != 0) = true := by rw [bne, beq_eq_false_iff_ne.2 hn0]; rfl
            clear hn0
            go_wp2_with first
              | (go_at_call 47; refine HHD.out.mono ?_; unfold hdV; rintro e w3 ⟨rfl, hB3⟩; have bj3 := bj2.gr hB3; have K23 := K22.gr hB3; have own3 := own_below HOW.out hB3; clear b0 b1 b2 b3 bf0 lb bj2 K22; obtain ⟨b0, b1, b2, b3, bf0⟩ := blk4 bj3; have lb := bj3.lt; have BJ3 := Lib.hid bj3; have K3 := Lib.hid K23; have OW3 := Lib.hid own3; clear bj3 K23 own3)
              | (go_at_call 48; have K4 := K3.out.set4 (.string nm) (.int .i64 th) (.int .i64 zo) (.slice none 0 0); have own4 := own_set4 OW3.out hjr (.string nm) (.int .i64 th) (.int .i64 zo) (.slice none 0 0); refine (rMark_any ((i : Int) + 1) (lineWs l) k Aw cw _ _ (by omega) (by omega) hpos (fun p hp => by have := HWS.out p hp; omega) (own_row own4) (Nat.le_refl _)).mono ?_; rintro e w5 ⟨rfl, hB5⟩; have K25 := K4.gr hB5; have br5 : Blk w5 rb 24 #[.string ⟨#[]⟩, .int .i64 0, .int .i64 0, .slice none 0 0] := (K25.same _ br.lt hrj (fun e => by cases e)).trans br; have bm5 : Blk w5 mb 34 #[.int .i64 0, .int .i64 0] := (K25.same _ bm.lt hmj (fun e => by cases e)).trans bm; obtain ⟨r0, r1, r2, r3, rf⟩ := blk4 br5; have m0 : w5.cell? ⟨mb, 0, none⟩ = some (.int .i64 0) := bm5.cell 0; have m1 : w5.cell? ⟨mb, 1, none⟩ = some (.int .i64 0) := bm5.cell 1; have mf : ∀ i, w5.frozen? ⟨mb, i, none⟩ = false := bm5.frozen; have hrm : ¬ rb = mb := Blk.ne_ br5 bm5 (by decide); have hmr : ¬ mb = rb := fun e => hrm e.symm; have lr5 := br5.lt; have lm5 := bm5.lt; have HK5 := Lib.hid K25; have HBR5 := Lib.hid br5; have HBM5 := Lib.hid bm5; clear K4 own4 b0 b1 b2 b3 bf0 lb K25 br5 bm5 hB5)
            refine H1.out _ _ _ _ _ _ _ _ _ _ _ _ _ _ _ _ _ _ _ _ _ _ _ _ _ _ _ _ _ _ _ _ _ _ _ _ _ _ _ _ _ _ _ _ _ _ _ HE ?_ ?_ ?_
            · exact ((Blk.set4 HBR5.out (.string ⟨#[]⟩) (.int .i64 0) (.int .i64 0) (.slice none 0 0)).far (p := ⟨mb, 0, none⟩) hrm (.int .i64 ((i : Int) + 1))).far (p := ⟨mb, 1, none⟩) hrm (.int .i64 (colW (lineWs l) k))
            · exact ((HBM5.out.far4 (p := rb) hmr (.string ⟨#[]⟩) (.int .i64 0) (.int .i64 0) (.slice none 0 0)).set_ 0 (.int .i64 ((i : Int) + 1))).set_ 1 (.int .i64 (colW (lineWs l) k))
            · intro B hb1 hb2 hb3 hb4
              exact ((Below.set4 (HK5.out.below hb1 hb4 (fun r e => by cases e)) hb2).setCell hb3 _).setCell hb3 _
        | some j =>
          simp only [joS] at b0 b1 b2 b3 bj2 hJ2 HRM ⊢
          have hface := rFaceJ j (lineWs l) A Aw c cw W.heap.size w2 (by omega) hpos (fun p hp => by have := HWS.out p hp; omega) Rw hJ2 HRM.out HAB.out (by omega)
          have hroom := faceP_room (ws := lineWs l) HRM.out
          have hst : stepP (some j) (lineWs l) = (some (joF j (faceP j (lineWs l)).1), (faceP j (lineWs l)).2) := rfl
          rw [hst] at hk10
          generalize joF j (faceP j (lineWs l)).1 = jn at hface hroom hst
          generalize (faceP j (lineWs l)).2 = q at hface hst hk10
          obtain ⟨k, n⟩ := q
          have HST := Lib.hid hst
          have HHD := Lib.hid hface
          have HRN := Lib.hid hroom
          clear hst hface Rw hroom
          simp only at hk10
          by_cases hn0 : n = 0
          · subst hn0
            have HP2 : Hid (parseL 0 none L = parseL (i + 1) (some jn) (L.drop (i + 1))) := Lib.hid (by rw [HP.out, parseL_go HNW.out (by rw [HST.out]), HST.out])
            go_wp2_with (go_at_call 46; refine HHD.out.mono ?_; rintro e w3 ⟨A3, c3, rfl, JR3, AB3, hB3⟩; have bj3 := bj2.gr hB3; have K23 := K22.gr hB3; have own3 := own_below HOW.out hB3; clear b0 b1 b2 b3 bf0 lb bj2 K22 hJ2; obtain ⟨b0, b1, b2, b3, bf0⟩ := blk4 bj3; have lb := bj3.lt; have BJ3 := Lib.hid bj3; have K3 := Lib.hid K23; have OW3 := Lib.hid own3; have HJ3 := Lib.hid JR3; have HAB3 := Lib.hid AB3; clear bj3 K23 own3 JR3 AB3)
            exact ⟨⟨i + 1, some jn, A3, c3, rfl, by go_num, by omega, HP2, Blk.set4 BJ3.out _ _ _ _, HJ3.out.far4 (fun a e => by have := HAB3.out a e; omega) _ _ _ _, HRN, HAB3, K3.out.set4 _ _ _ _⟩, by (first | (simp [RowKit.intOf]; done) | (simp [RowKit.intOf]; omega))⟩
          · have HE : Hid (parseL 0 none L = (joZ, ((i : Int) + 1, colW (lineWs l) k), n)) := Lib.hid (by rw [HP.out, parseL_bad HNW.out (by rw [HST.out]; exact hn0), HST.out])
            have gn : (n != 0) = true := by rw [bne, beq_eq_false_iff_ne.2 hn0]; rfl
            clear hn0
            go_wp2_with first
              | (go_at_call 46; refine HHD.out.mono ?_; rintro e w3 ⟨A3, c3, rfl, JR3, AB3, hB3⟩; have bj3 := bj2.gr hB3; have K23 := K22.gr hB3; have own3 := own_below HOW.out hB3; clear b0 b1 b2 b3 bf0 lb bj2 K22 hJ2; obtain ⟨b0, b1, b2, b3, bf0⟩ := blk4 bj3; have lb := bj3.lt; have BJ3 := Lib.hid bj3; have K3 := Lib.hid K23; have OW3 := Lib.hid own3; have HJ3 := Lib.hid JR3; have HAB3 := Lib.hid AB3; clear bj3 K23 own3 JR3 AB3)
              | (go_at_call 48; have K4 := K3.out.set4 (.string jn.nm) (.int .i64 jn.thick) (.int .i64 jn.zone) (.slice A3 jn.fs.length c3); have own4 := own_set4 OW3.out hjr (.string jn.nm) (.int .i64 jn.thick) (.int .i64 jn.zone) (.slice A3 jn.fs.length c3); refine (rMark_any ((i : Int) + 1) (lineWs l) k Aw cw _ _ (by omega) (by omega) hpos (fun p hp => by have := HWS.out p hp; omega) (own_row own4) (Nat.le_refl _)).mono ?_; rintro e w5 ⟨rfl, hB5⟩; have K25 := K4.gr hB5; have br5 : Blk w5 rb 24 #[.string ⟨#[]⟩, .int .i64 0, .int .i64 0, .slice none 0 0] := (K25.same _ br.lt hrj (fun e => by cases e)).trans br; have bm5 : Blk w5 mb 34 #[.int .i64 0, .int .i64 0] := (K25.same _ bm.lt hmj (fun e => by cases e)).trans bm; obtain ⟨r0, r1, r2, r3, rf⟩ := blk4 br5; have m0 : w5.cell? ⟨mb, 0, none⟩ = some (.int .i64 0) := bm5.cell 0; have m1 : w5.cell? ⟨mb, 1, none⟩ = some (.int .i64 0) := bm5.cell 1; have mf : ∀ i, w5.frozen? ⟨mb, i, none⟩ = false := bm5.frozen; have hrm : ¬ rb = mb := Blk.ne_ br5 bm5 (by decide); have hmr : ¬ mb = rb := fun e => hrm e.symm; have lr5 := br5.lt; have lm5 := bm5.lt; have HK5 := Lib.hid K25; have HBR5 := Lib.hid br5; have HBM5 := Lib.hid bm5; clear K4 own4 b0 b1 b2 b3 bf0 lb K25 br5 bm5 hB5)
            refine H1.out _ _ _ _ _ _ _ _ _ _ _ _ _ _ _ _ _ _ _ _ _ _ _ _ _ _ _ _ _ _ _ _ _ _ _ _ _ _ _ _ _ _ _ _ _ _ _ HE ?_ ?_ ?_
            · exact ((Blk.set4 HBR5.out (.string ⟨#[]⟩) (.int .i64 0) (.int .i64 0) (.slice none 0 0)).far (p := ⟨mb, 0, none⟩) hrm (.int .i64 ((i : Int) + 1))).far (p := ⟨mb, 1, none⟩) hrm (.int .i64 (colW (lineWs l) k))
            · exact ((HBM5.out.far4 (p := rb) hmr (.string ⟨#[]⟩) (.int .i64 0) (.int .i64 0) (.slice none 0 0)).set_ 0 (.int .i64 ((i : Int) + 1))).set_ 1 (.int .i64 (colW (lineWs l) k))
            · intro B hb1 hb2 hb3 hb4
              exact ((Below.set4 (HK5.out.below hb1 hb4 (fun r e => by cases e)) hb2).setCell hb3 _).setCell hb3 _
    · obtain rfl : i = L.length := by omega
      have HP2 : Hid (parseL 0 none L = parseL L.length st []) := Lib.hid (by rw [HP.out, List.drop_length])
      clear HP
      go_wp2
      exact H2.out _ _ _ _ _ _ _ _ _ _ _ _ _ _ _ _ _ _ _ _ _ _ _ _ _ _ _ _ _ _ _ _ _ _ _ _ _ _ _ _ _ _ st A c _ HP2 bj hJ HAB.out K2
end Go.Proofs.YtaekcfancfoccaaGreatDoor
