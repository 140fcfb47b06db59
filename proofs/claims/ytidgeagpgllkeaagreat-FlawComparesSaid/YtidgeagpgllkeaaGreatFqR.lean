/- The law FlawCompares answers true. -/
import Derived.Test.YtidgeagpgllkeaaGreatFqQ
namespace Go.Proofs.YtidgeagpgllkeaaGreat
open Go.RowKit

structure GrJ (V W : World) : Prop where
  g : Gr V W
theorem GrJ.below {V W W' : World} {C : Nat} (h : GrJ V W) (hb : Below C W W') (hC : V.heap.size ≤ C) : GrJ V W' := ⟨Below.trans h.g (hb.mono hC)⟩
theorem GrJ.base {V W : World} (h : GrJ V W) : V.heap.size ≤ W.heap.size := Below.size h.g
theorem own_rowA {w : World} {base e size n c : Nat} {A : Option Addr} {xs : List Value} (h : w.ownsRow base e size (.slice A n c) n xs) : Row w w.heap.size size A n xs ∧ n ≤ c ∧ (A = none → c = 0) := by
  obtain ⟨A', c', hv, a, b, d⟩ := own_row2 h
  have e1 := Value.slice.inj hv
  obtain ⟨rfl, _, rfl⟩ := e1
  exact ⟨a, b, d⟩
theorem open_swap {l0 l1 : List Mk} {slack : Int} (h : openE l0 l1 slack = 0) : openE l1 l0 slack = 0 := by
  have hz := (firstE_zero _).1 h
  refine (firstE_zero _).2 fun e he => ?_
  simp only [List.mem_cons, List.not_mem_nil, or_false] at he
  rcases he with rfl | rfl | rfl
  · exact hz _ (by simp)
  · exact hz _ (by simp)
  · exact hz _ (by simp)
theorem wpList_append_row {ops : Array Oper} {rest : List Oper} {w : World} {o : Oper} {a : Act} {Q : Exit → Act → World → Prop} (hgd : o.guard = none) (s x : Operand)
    (ho : o.op = .call { callee := .builtin .append, args := #[s, x], argTypes := #[87, 87] })
    (base : Nat) (v : Value) (P : List (Int × Int)) (A2 : Option Addr) (c2 B : Nat) (hs : a.eval s = v) (hown : w.ownsRow base 25 2 v 0 []) (hx : a.eval x = .slice A2 P.length c2) (hR : Row w B 2 A2 P.length (cellsC P)) (hN : A2 = none → c2 = 0) (hP : P.length ≤ 1000) (hbase : base ≤ w.heap.size)
    (h : ∀ v' w', w'.ownsRow base 25 2 v' P.length (cellsC P) → w.grownBy w' v.ownBlock → wpList Tryz.prog ops Q rest (a.put o.dst v') w') : wpList Tryz.prog ops Q (o :: rest) a w :=
  wpList_plain hgd fun _ hK => wp_append_row w s x ho base v P A2 c2 B hs hown hx hR hN hP hbase fun v' w' h1 h2 => hK _ _ (h v' w' h1 h2)

set_option maxRecDepth 100000 in
set_option maxHeartbeats 16000000 in
theorem flawCompares_any (l0 l1 : List Mk) (A0 A1 : Option Addr) (c0 c1 : Nat) (slack : Int) (w : World) (g0 : MkArg l0 A0 c0 w) (g1 : MkArg l1 A1 c1 w) :
    Calls Tryz.prog 17 #[.slice A0 l0.length c0, .slice A1 l1.length c1, .int .i64 slack] w fun e w' => e = .returned (.bool true) ∧ Below w.heap.size w w' := by
  go_enter Tryz.func17, Tryz.ntmps17
  go_wp2_with fail
  refine (awake_any _).mono ?_
  rintro e w1 ⟨rfl, hBB⟩
  go_wp2_with fail
  refine (marks_any l0 A0 c0 w.heap.size _ g0.len (g0.row.below hBB (Nat.le_refl _)) g0.size (Below.size hBB)).mono ?_
  rintro e wc1 ⟨rfl, hBc1⟩
  replace hBB := hBB.trans (Below.mono hBc1 (Below.size hBB))
  clear hBc1
  cases hm0 : marksB l0
  · go_wp2
    go_ret
    exact ⟨rfl, hBB⟩
  go_wp2_with fail
  refine (marks_any l1 A1 c1 w.heap.size _ g1.len (g1.row.below hBB (Nat.le_refl _)) g1.size (Below.size hBB)).mono ?_
  rintro e wc2 ⟨rfl, hBc2⟩
  replace hBB := hBB.trans (Below.mono hBc2 (Below.size hBB))
  clear hBc2
  cases hm1 : marksB l1
  · go_wp2
    go_ret
    exact ⟨rfl, hBB⟩
  obtain ⟨hl0, hs0⟩ := marksB_true hm0
  obtain ⟨hl1, hs1⟩ := marksB_true hm1
  have m0 : MkOk l0 A0 w.heap.size w := ⟨by omega, g0.row, fun m h => by have := hs0 m h; omega⟩
  have m1 : MkOk l1 A1 w.heap.size w := ⟨by omega, g1.row, fun m h => by have := hs1 m h; omega⟩
  clear hm0 hm1 hs0 hs1
  go_wp2_with fail
  refine (copyMarks_any l0 A0 c0 w.heap.size _ (m0.below hBB (Nat.le_refl _)) g0.le (Below.size hBB) g0.nil).mono ?_
  rintro e wc3 ⟨v1, rfl, own1, hBc3⟩
  obtain ⟨D0, d0, rfl, k0, q0⟩ := copied own1 (by omega) m0.size
  clear own1
  replace hBB := hBB.trans (Below.mono hBc3 (Below.size hBB))
  clear hBc3
  go_wp2_with fail
  refine (copyMarks_any l1 A1 c1 w.heap.size _ (m1.below hBB (Nat.le_refl _)) g1.le (Below.size hBB) g1.nil).mono ?_
  rintro e wc4 ⟨v1', rfl, own1', hBc4⟩
  have k0 := MkOk.gr k0 hBc4
  obtain ⟨D1, d1, rfl, k1, q1⟩ := copied own1' (by omega) m1.size
  clear own1'
  replace hBB := hBB.trans (Below.mono hBc4 (Below.size hBB))
  clear hBc4
  by_cases he : openE l0 l1 slack = 0
  case neg =>
    have hne : (openE l0 l1 slack != 0) = true := by simpa using he
    go_wp2_with fail
    refine (compared_bad l0 l1 D0 D1 d0 d1 _ slack _ k0 k1 q0 q1 (Nat.le_refl _) he).mono ?_
    rintro e wc5 ⟨rfl, hBc5⟩
    clear k0 k1 q0 q1
    replace hBB := hBB.trans (Below.mono hBc5 (Below.size hBB))
    clear hBc5
    have b8 := Blk.new wc5 126 #[.slice none 0 0, .slice none 0 0]
    replace hBB := hBB.alloc (Below.size hBB) (.cells #[.slice none 0 0, .slice none 0 0] 126 (0, 0))
    have l_b8 := b8.lt
    obtain ⟨e0, e1, f8⟩ := blk2c b8
    go_wp2_with fail
    refine (copyMarks_any l0 A0 c0 w.heap.size _ (m0.below hBB (Nat.le_refl _)) g0.le (Below.size hBB) g0.nil).mono ?_
    rintro e wc6 ⟨v2, rfl, own2, hBc6⟩
    replace b8 := b8.gr hBc6
    obtain ⟨D0, d0, rfl, k0, q0⟩ := copied own2 (by omega) m0.size
    clear own2
    replace hBB := hBB.trans (Below.mono hBc6 (Below.size hBB))
    clear hBc6
    clear l_b8 e0 e1 f8
    have l_b8 := b8.lt
    obtain ⟨e0, e1, f8⟩ := blk2c b8
    go_wp2_with fail
    refine (copyMarks_any l1 A1 c1 w.heap.size _ (m1.below hBB (Nat.le_refl _)) g1.le (Below.size hBB) g1.nil).mono ?_
    rintro e wc7 ⟨v2', rfl, own2', hBc7⟩
    replace b8 := b8.gr hBc7
    have k0 := MkOk.gr k0 hBc7
    obtain ⟨D1, d1, rfl, k1, q1⟩ := copied own2' (by omega) m1.size
    clear own2'
    replace hBB := hBB.trans (Below.mono hBc7 (Below.size hBB))
    clear hBc7
    clear l_b8 e0 e1 f8
    have l_b8 := b8.lt
    obtain ⟨e0, e1, f8⟩ := blk2c b8
    go_wp2_with fail
    refine (agreement_bad l0 l1 D0 D1 d0 d1 _ slack _ k0 k1 q0 q1 (Nat.le_refl _) he).mono ?_
    rintro e wc8 ⟨rfl, hBc8⟩
    replace b8 := b8.gr hBc8
    clear k0 k1 q0 q1
    replace hBB := hBB.trans (Below.mono hBc8 (Below.size hBB))
    clear hBc8
    clear l_b8 e0 e1 f8
    have l_b8 := b8.lt
    obtain ⟨e0, e1, f8⟩ := blk2c b8
    have b10 := Blk.new wc8 45 #[.int .i64 0, .int .i64 0]
    replace b8 := b8.alloc (.cells #[.int .i64 0, .int .i64 0] 45 (0, 0))
    replace hBB := hBB.alloc (Below.size hBB) (.cells #[.int .i64 0, .int .i64 0] 45 (0, 0))
    clear l_b8 e0 e1 f8
    have l_b8 := b8.lt
    have l_b10 := b10.lt
    obtain ⟨e0, e1, f8⟩ := blk2c b8
    obtain ⟨h0, h1, f10⟩ := blk2c b10
    go_wp2_with fail
    refine (refListsErr_any l0 l1 A0 A1 c0 c1 w.heap.size slack _ (m0.below hBB (Nat.le_refl _)) (m1.below hBB (Nat.le_refl _)) (Below.size hBB)).mono ?_
    rintro e wc9 ⟨rfl, hBc9⟩
    replace b8 := b8.gr hBc9
    replace b10 := b10.gr hBc9
    replace hBB := hBB.trans (Below.mono hBc9 (Below.size hBB))
    clear hBc9
    clear l_b8 e0 e1 f8 l_b10 h0 h1 f10
    have l_b8 := b8.lt
    have l_b10 := b10.lt
    obtain ⟨e0, e1, f8⟩ := blk2c b8
    obtain ⟨h0, h1, f10⟩ := blk2c b10
    have hq := eq_frac_same 0 0
    go_wp2
    go_ret
    exact ⟨by first | rfl | (simp; done), hBB⟩
  case pos =>
    obtain ⟨HS0, HS1⟩ := open_small he
    go_wp2_with fail
    refine (compared_ok l0 l1 D0 D1 d0 d1 _ slack _ k0 k1 q0 q1 (Nat.le_refl _) (by omega) (by omega) he).mono ?_
    rintro e wc10 ⟨AP, AF, AS, cP, cF, cS, Fl, Sl, rfl, hP, hF, hS, HC, hBc10⟩
    clear k0 k1 q0 q1
    replace hBB := hBB.trans (Below.mono hBc10 (Below.size hBB))
    clear hBc10
    have HOP := Lib.hid hP
    have HOF := Lib.hid hF
    have HOS := Lib.hid hS
    have hJ : GrJ wc10 wc10 := ⟨Below.refl _ _⟩
    clear hP hF hS
    have hPn := PV_le0 l0 l1 slack
    have hFn := HC.out.2.1
    have hSn := HC.out.2.2
    have HCP : Hid (cpE l0 l1 slack (PV l0 l1 slack) = 0 ∧ cpN l0 l1 slack (PV l0 l1 slack) = ((PV l0 l1 slack).length : Int)) := Lib.hid (by
      have h1 : cpE l0 l1 slack (PV l0 l1 slack) = 0 := (cpE_ok he).1.trans HC.out.1.pairs.e
      exact ⟨h1, by unfold cpN; rw [if_pos h1]⟩)
    have HCC : Hid (ccE l0 l1 slack Fl Sl = 0 ∧ ccN l0 l1 slack Fl Sl = ((PV l0 l1 slack).length : Int)) := Lib.hid (by
      have h1 : ccE l0 l1 slack Fl Sl = 0 := (ccE_ok he).1.trans HC.out.1.cover.e
      have h2 := HC.out.1.same
      exact ⟨h1, by unfold ccN; rw [if_pos h1]; omega⟩)
    have HRP : Hid (pairsE l0.length l1.length (relV l0 l1 slack) (PV l0 l1 slack) = 0 ∧ prN 0 (PV l0 l1 slack) = ((PV l0 l1 slack).length : Int)) := Lib.hid ⟨HC.out.1.pairs.e, rfl⟩
    have HRC : Hid (coverE l0.length l1.length (relV l0 l1 slack) Fl Sl = 0 ∧ covN 0 Fl Sl = ((PV l0 l1 slack).length : Int)) := Lib.hid ⟨HC.out.1.cover.e, by have h2 := HC.out.1.same; show (Fl.length : Int) + Sl.length = _; omega⟩
    have HASC : Hid ((PV l0 l1 slack).Pairwise fun p q => p.1 < q.1) := Lib.hid HC.out.1.asc
    have HSW : Hid (∀ F' S', CmpOk l1.length l0.length (relV l1 l0 slack) (PV l1 l0 slack) F' S' → (PV l1 l0 slack).length = (PV l0 l1 slack).length) := Lib.hid (fun F' S' h => CmpOk.swapped (relV_swap l0 l1 slack) HC.out.1 h)
    obtain ⟨P, hPV⟩ : ∃ P, PV l0 l1 slack = P := ⟨_, rfl⟩
    rw [hPV] at HOP hPn HCP HCC HRP HRC HASC HSW ⊢
    clear hPV HC
    obtain ⟨x, y, hxy⟩ : ∃ x y : Int, agV l0 l1 slack = .agg #[.int .i64 x, .int .i64 y] := by
      unfold agV frV
      split
      · exact ⟨_, _, rfl⟩
      · exact ⟨_, _, rfl⟩
    obtain ⟨AE, hAE⟩ : ∃ E, agE l0 l1 = E := ⟨_, rfl⟩
    have HXY := Lib.hid (And.intro hxy hAE)
    clear hxy hAE
    have b8 := Blk.new wc10 126 #[.slice AF Fl.length cF, .slice AS Sl.length cS]
    replace hJ := hJ.below ((Below.refl _ _).alloc (Nat.le_refl _) (.cells #[.slice AF Fl.length cF, .slice AS Sl.length cS] 126 (0, 0))) hJ.base
    replace hBB := hBB.alloc (Below.size hBB) (.cells #[.slice AF Fl.length cF, .slice AS Sl.length cS] 126 (0, 0))
    have l_b8 := b8.lt
    obtain ⟨e0, e1, f8⟩ := blk2c b8
    go_wp2_with fail
    refine (copyMarks_any l0 A0 c0 w.heap.size _ (m0.below hBB (Nat.le_refl _)) g0.le (Below.size hBB) g0.nil).mono ?_
    rintro e wc11 ⟨v3, rfl, own3, hBc11⟩
    replace b8 := b8.gr hBc11
    replace hJ := hJ.below hBc11 hJ.base
    obtain ⟨D0, d0, rfl, k0, q0⟩ := copied own3 (by omega) m0.size
    clear own3
    replace hBB := hBB.trans (Below.mono hBc11 (Below.size hBB))
    clear hBc11
    clear l_b8 e0 e1 f8
    have l_b8 := b8.lt
    obtain ⟨e0, e1, f8⟩ := blk2c b8
    go_wp2_with fail
    refine (copyMarks_any l1 A1 c1 w.heap.size _ (m1.below hBB (Nat.le_refl _)) g1.le (Below.size hBB) g1.nil).mono ?_
    rintro e wc12 ⟨v3', rfl, own3', hBc12⟩
    replace b8 := b8.gr hBc12
    replace hJ := hJ.below hBc12 hJ.base
    have k0 := MkOk.gr k0 hBc12
    obtain ⟨D1, d1, rfl, k1, q1⟩ := copied own3' (by omega) m1.size
    clear own3'
    replace hBB := hBB.trans (Below.mono hBc12 (Below.size hBB))
    clear hBc12
    clear l_b8 e0 e1 f8
    have l_b8 := b8.lt
    obtain ⟨e0, e1, f8⟩ := blk2c b8
    go_wp2_with fail
    refine (agreement_ok l0 l1 D0 D1 d0 d1 _ slack _ k0 k1 q0 q1 (Nat.le_refl _) (by omega) (by omega) he).mono ?_
    rw [HXY.out.1, HXY.out.2]
    rintro e wc13 ⟨rfl, hBc13⟩
    replace b8 := b8.gr hBc13
    replace hJ := hJ.below hBc13 hJ.base
    clear k0 k1 q0 q1
    replace hBB := hBB.trans (Below.mono hBc13 (Below.size hBB))
    clear hBc13
    clear l_b8 e0 e1 f8
    have l_b8 := b8.lt
    obtain ⟨e0, e1, f8⟩ := blk2c b8
    have b10 := Blk.new wc13 45 #[.int .i64 x, .int .i64 y]
    replace b8 := b8.alloc (.cells #[.int .i64 x, .int .i64 y] 45 (0, 0))
    replace hJ := hJ.below ((Below.refl _ _).alloc (Nat.le_refl _) (.cells #[.int .i64 x, .int .i64 y] 45 (0, 0))) hJ.base
    replace hBB := hBB.alloc (Below.size hBB) (.cells #[.int .i64 x, .int .i64 y] 45 (0, 0))
    clear l_b8 e0 e1 f8
    have l_b8 := b8.lt
    have l_b10 := b10.lt
    obtain ⟨e0, e1, f8⟩ := blk2c b8
    obtain ⟨h0, h1, f10⟩ := blk2c b10
    go_wp2_with fail
    refine (refListsErr_any l0 l1 A0 A1 c0 c1 w.heap.size slack _ (m0.below hBB (Nat.le_refl _)) (m1.below hBB (Nat.le_refl _)) (Below.size hBB)).mono ?_
    rw [he]
    rintro e wc14 ⟨rfl, hBc14⟩
    replace b8 := b8.gr hBc14
    replace b10 := b10.gr hBc14
    replace hJ := hJ.below hBc14 hJ.base
    replace hBB := hBB.trans (Below.mono hBc14 (Below.size hBB))
    clear hBc14
    clear l_b8 e0 e1 f8 l_b10 h0 h1 f10
    have l_b8 := b8.lt
    have l_b10 := b10.lt
    obtain ⟨e0, e1, f8⟩ := blk2c b8
    obtain ⟨h0, h1, f10⟩ := blk2c b10
    go_wp2_with fail
    refine (refCheckPairs_any l0 l1 A0 A1 AP c0 c1 cP _ slack P _ (MkOk.gr m0 hBB) (MkOk.gr m1 hBB) (own_rowA (own_below HOP.out hJ.g)).1 (Nat.le_refl _) HS0 HS1 (by omega) (by omega) (by omega)).mono ?_
    rw [HRP.out.1, HRP.out.2]
    rintro e wc15 ⟨rfl, hBc15⟩
    replace b8 := b8.gr hBc15
    replace b10 := b10.gr hBc15
    replace hJ := hJ.below hBc15 hJ.base
    replace hBB := hBB.trans (Below.mono hBc15 (Below.size hBB))
    clear hBc15
    clear l_b8 e0 e1 f8 l_b10 h0 h1 f10
    have l_b8 := b8.lt
    have l_b10 := b10.lt
    obtain ⟨e0, e1, f8⟩ := blk2c b8
    obtain ⟨h0, h1, f10⟩ := blk2c b10
    go_wp2_with fail
    refine (refCheckCover_any l0 l1 A0 A1 AF AS c0 c1 cF cS _ slack Fl Sl _ (MkOk.gr m0 hBB) (MkOk.gr m1 hBB) (own_rowA (own_below HOF.out hJ.g)).1 (own_rowA (own_below HOS.out hJ.g)).1 (Nat.le_refl _) HS0 HS1 (by omega) (by omega) (by omega) (by omega)).mono ?_
    rw [HRC.out.1, HRC.out.2]
    rintro e wc16 ⟨rfl, hBc16⟩
    replace b8 := b8.gr hBc16
    replace b10 := b10.gr hBc16
    replace hJ := hJ.below hBc16 hJ.base
    replace hBB := hBB.trans (Below.mono hBc16 (Below.size hBB))
    clear hBc16
    clear l_b8 e0 e1 f8 l_b10 h0 h1 f10
    have l_b8 := b8.lt
    have l_b10 := b10.lt
    obtain ⟨e0, e1, f8⟩ := blk2c b8
    obtain ⟨h0, h1, f10⟩ := blk2c b10
    go_wp2_with fail
    refine (refAgreement_any l0 l1 A0 A1 c0 c1 w.heap.size slack _ (m0.below hBB (Nat.le_refl _)) (m1.below hBB (Nat.le_refl _)) (Below.size hBB) HS0 HS1 (by omega) (by omega)).mono ?_
    rw [HXY.out.1, HXY.out.2]
    rintro e wc17 ⟨rfl, hBc17⟩
    replace b8 := b8.gr hBc17
    replace b10 := b10.gr hBc17
    replace hJ := hJ.below hBc17 hJ.base
    replace hBB := hBB.trans (Below.mono hBc17 (Below.size hBB))
    clear hBc17
    clear l_b8 e0 e1 f8 l_b10 h0 h1 f10
    have l_b8 := b8.lt
    have l_b10 := b10.lt
    obtain ⟨e0, e1, f8⟩ := blk2c b8
    obtain ⟨h0, h1, f10⟩ := blk2c b10
    have b17 := Blk.new wc17 45 #[.int .i64 x, .int .i64 y]
    replace b8 := b8.alloc (.cells #[.int .i64 x, .int .i64 y] 45 (0, 0))
    replace b10 := b10.alloc (.cells #[.int .i64 x, .int .i64 y] 45 (0, 0))
    replace hJ := hJ.below ((Below.refl _ _).alloc (Nat.le_refl _) (.cells #[.int .i64 x, .int .i64 y] 45 (0, 0))) hJ.base
    replace hBB := hBB.alloc (Below.size hBB) (.cells #[.int .i64 x, .int .i64 y] 45 (0, 0))
    clear l_b8 e0 e1 f8 l_b10 h0 h1 f10
    have l_b8 := b8.lt
    have l_b10 := b10.lt
    have l_b17 := b17.lt
    obtain ⟨e0, e1, f8⟩ := blk2c b8
    obtain ⟨h0, h1, f10⟩ := blk2c b10
    obtain ⟨i0, i1, f17⟩ := blk2c b17
    have hq := eq_frac_same x y
    go_wp2_with fail
    have hl := cmpLoop (cP := cP) (own_rowA (own_below HOP.out hJ.g)).1 (Nat.le_refl _) (by omega : P.length ≤ 1000)
    unfold bodyOf at hl
    conv at hl in (Option.getD _ Code.skip) => whnf
    refine hl HASC _ ?_
    clear hl hq
    intro t6 t19 t136 t137 t138 t139 t140 t141 t142 t143 t144 t145 t146 t147 t148 t149 t150 t151 t152 t153 wl hgl
    clear l_b8 e0 e1 f8 l_b10 h0 h1 f10 l_b17 i0 i1 f17
    clear b10 b17
    replace b8 := b8.gr hgl
    replace hJ := hJ.below hgl hJ.base
    replace hBB := hBB.trans (hgl.mono (Below.size hBB))
    clear hgl
    have l_b8 := b8.lt
    obtain ⟨e0, e1, f8⟩ := blk2c b8
    go_wp2_with fail
    refine (copyMarks_any l1 A1 c1 w.heap.size _ (m1.below hBB (Nat.le_refl _)) g1.le (Below.size hBB) g1.nil).mono ?_
    rintro e wc18 ⟨v4, rfl, own4, hBc18⟩
    replace b8 := b8.gr hBc18
    replace hJ := hJ.below hBc18 hJ.base
    obtain ⟨D1, d1, rfl, k1, q1⟩ := copied own4 (by omega) m1.size
    clear own4
    replace hBB := hBB.trans (Below.mono hBc18 (Below.size hBB))
    clear hBc18
    clear l_b8 e0 e1 f8
    have l_b8 := b8.lt
    obtain ⟨e0, e1, f8⟩ := blk2c b8
    go_wp2_with fail
    refine (copyMarks_any l0 A0 c0 w.heap.size _ (m0.below hBB (Nat.le_refl _)) g0.le (Below.size hBB) g0.nil).mono ?_
    rintro e wc19 ⟨v4', rfl, own4', hBc19⟩
    replace b8 := b8.gr hBc19
    replace hJ := hJ.below hBc19 hJ.base
    have k1 := MkOk.gr k1 hBc19
    obtain ⟨D0, d0, rfl, k0, q0⟩ := copied own4' (by omega) m0.size
    clear own4'
    replace hBB := hBB.trans (Below.mono hBc19 (Below.size hBB))
    clear hBc19
    clear l_b8 e0 e1 f8
    have l_b8 := b8.lt
    obtain ⟨e0, e1, f8⟩ := blk2c b8
    have he' := open_swap he
    go_wp2_with fail
    refine (compared_ok l1 l0 D1 D0 d1 d0 _ slack _ k1 k0 q1 q0 (Nat.le_refl _) (by omega) (by omega) he').mono ?_
    rintro e wc20 ⟨AQ, AF', AS', cQ, cF', cS', Fl', Sl', rfl, hP, hF, hS, HC, hBc20⟩
    replace b8 := b8.gr hBc20
    replace hJ := hJ.below hBc20 hJ.base
    clear k0 k1 q0 q1 hP hF hS
    replace hBB := hBB.trans (Below.mono hBc20 (Below.size hBB))
    clear hBc20
    clear l_b8 e0 e1 f8
    have l_b8 := b8.lt
    obtain ⟨e0, e1, f8⟩ := blk2c b8
    have hQ := HSW.out _ _ HC.out.1
    rw [hQ]
    clear hQ HC he' HSW
    have b21 := Blk.new wc20 126 #[.slice AF' Fl'.length cF', .slice AS' Sl'.length cS']
    replace b8 := b8.alloc (.cells #[.slice AF' Fl'.length cF', .slice AS' Sl'.length cS'] 126 (0, 0))
    replace hJ := hJ.below ((Below.refl _ _).alloc (Nat.le_refl _) (.cells #[.slice AF' Fl'.length cF', .slice AS' Sl'.length cS'] 126 (0, 0))) hJ.base
    replace hBB := hBB.alloc (Below.size hBB) (.cells #[.slice AF' Fl'.length cF', .slice AS' Sl'.length cS'] 126 (0, 0))
    clear l_b8 e0 e1 f8
    have l_b8 := b8.lt
    have l_b21 := b21.lt
    obtain ⟨e0, e1, f8⟩ := blk2c b8
    go_wp2_with fail
    refine (copyMarks_any l0 A0 c0 w.heap.size _ (m0.below hBB (Nat.le_refl _)) g0.le (Below.size hBB) g0.nil).mono ?_
    rintro e wc21 ⟨v5, rfl, own5, hBc21⟩
    replace b8 := b8.gr hBc21
    replace b21 := b21.gr hBc21
    replace hJ := hJ.below hBc21 hJ.base
    obtain ⟨D0, d0, rfl, k0, q0⟩ := copied own5 (by omega) m0.size
    clear own5
    replace hBB := hBB.trans (Below.mono hBc21 (Below.size hBB))
    clear hBc21
    clear l_b8 e0 e1 f8 l_b21
    have l_b8 := b8.lt
    have l_b21 := b21.lt
    obtain ⟨e0, e1, f8⟩ := blk2c b8
    go_wp2_with fail
    refine (copyMarks_any l1 A1 c1 w.heap.size _ (m1.below hBB (Nat.le_refl _)) g1.le (Below.size hBB) g1.nil).mono ?_
    rintro e wc22 ⟨v5', rfl, own5', hBc22⟩
    replace b8 := b8.gr hBc22
    replace b21 := b21.gr hBc22
    replace hJ := hJ.below hBc22 hJ.base
    have k0 := MkOk.gr k0 hBc22
    obtain ⟨D1, d1, rfl, k1, q1⟩ := copied own5' (by omega) m1.size
    clear own5'
    replace hBB := hBB.trans (Below.mono hBc22 (Below.size hBB))
    clear hBc22
    clear l_b8 e0 e1 f8 l_b21
    have l_b8 := b8.lt
    have l_b21 := b21.lt
    obtain ⟨e0, e1, f8⟩ := blk2c b8
    clear b21
    have own8 : (wc22.alloc (.cells #[] 25)).ownsRow wc22.heap.size 25 2 (.slice (some ⟨wc22.heap.size, 0, none⟩) 0 0) 0 [] := World.ownsRow_made wc22 #[] 0 (Nat.le_refl _) (by simp [maxLen]) (by simp)
    have hgA : Gr wc22 (wc22.alloc (.cells #[] 25)) := (Below.refl _ _).alloc (Nat.le_refl _) _
    have hrP := own_rowA (own_below (own_below HOP.out hJ.g) hgA)
    go_wp2_with (at_builtin; refine wpList_append_row rfl _ _ rfl _ _ P AP cP _ rfl own8 rfl hrP.1 hrP.2.2 (by omega) (Below.size hgA) ?_; intro v' wa ho' hgrow; obtain ⟨DP, dP, rfl⟩ := own_slice ho')
    have hgW : Gr wc22 wa := Below.grown hgA hgrow (Below.size hgA) (fun q e => (own8.lt q e).1)
    clear l_b8 e0 e1 f8
    have k0 := MkOk.gr k0 hgW
    have k1 := MkOk.gr k1 hgW
    replace b8 := b8.gr hgW
    replace hJ := hJ.below hgW hJ.base
    replace hBB := hBB.trans (hgW.mono (Below.size hBB))
    clear own8 hgA hrP hgW hgrow
    refine (checkPairs_any l0 l1 D0 D1 DP d0 d1 dP _ slack P _ k0 k1 (own_rowA ho').1 q0 q1 (Nat.le_refl _) (by omega) (by omega) (by omega)).mono ?_
    rw [HCP.out.1, HCP.out.2]
    rintro e wb ⟨rfl, hgb⟩
    clear k0 k1 q0 q1 ho'
    replace b8 := b8.gr hgb
    replace hJ := hJ.below hgb hJ.base
    replace hBB := hBB.trans (hgb.mono (Below.size hBB))
    clear hgb
    go_upto_region 22 with fail
    refine cmReg22 l0 l1 A0 A1 AF AS c0 c1 cF cS wb.heap.size slack Fl Sl (Lib.hid fun w' h => (MkOk.gr m0 hBB).below h (Nat.le_refl _)) (Lib.hid fun w' h => (MkOk.gr m1 hBB).below h (Nat.le_refl _)) (Lib.hid fun w' h => (own_rowA (own_below HOF.out hJ.g)).1.below h (Nat.le_refl _)) (Lib.hid fun w' h => (own_rowA (own_below HOS.out hJ.g)).1.below h (Nat.le_refl _)) (Nat.le_refl _) g0.le g1.le (own_rowA HOF.out).2.1 (own_rowA HOS.out).2.1 (Lib.hid g0.nil) (Lib.hid g1.nil) (Lib.hid (own_rowA HOF.out).2.2) (Lib.hid (own_rowA HOS.out).2.2) (by omega) (by omega) (by omega) (by omega) b8 _ ?_
    rw [HCC.out.1, HCC.out.2]
    intro t177 t178 t179 t180 t181 t182 t183 t184 t185 t186 t187 t188 t189 t190 t191 t192 t193 wy hBy
    replace hBB := hBB.trans (hBy.mono (Below.size hBB))
    go_wp2
    go_ret
    exact ⟨by first | rfl | (simp; done), hBB⟩
end Go.Proofs.YtidgeagpgllkeaaGreat
