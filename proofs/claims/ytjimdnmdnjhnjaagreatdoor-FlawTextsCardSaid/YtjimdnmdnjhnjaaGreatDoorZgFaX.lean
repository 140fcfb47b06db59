/- Contract: the area of a cell: the whole. -/
import Derived.Test.YtjimdnmdnjhnjaaGreatDoorZgFaXb
namespace Go.Proofs.YtjimdnmdnjhnjaaGreatDoor
open Go.RowKit Go.Shelf

attribute [local go_sem] Oper.semAt_some
attribute [local irreducible] nbV

theorem PkI.of_sort {w wr W1 : World} {b n S B4 B6 B7 B8 G cap : Nat} {g : Int → Int → Int} {level : Int} {corners : Bool} {L : List (Int × Int)} (h : ArI w b n S w.heap.size B4 B6 B7 B8 g level corners L (.slice (some ⟨G, 0, none⟩) L.length cap) wr)
    (hg : wr.grownBy W1 (some G)) (hrow : W1.ownsRow w.heap.size 62 2 (.slice (some ⟨G, 0, none⟩) L.length cap) L.length (cellsC (sortC L))) (hb : b < w.heap.size) : PkI w b n B6 B8 G cap g (sortC L) (0, 0) 0 W1 := by
  have hl := sortC_length L
  have key : ∀ {x t cs}, Blk wr x t cs → 62 ≠ t → Blk W1 x t cs := fun hb hne => hb.grown hg (fun e => own_blk_ne h.row hb hne e.symm)
  refine ⟨key h.b3 (by decide), key h.b6 (by decide), by rw [hl]; exact key h.b8 (by decide), h.hM.kept hg (own_ne h.row (.inl hb)), by rw [hl]; exact hrow, h.below.grown hg (Below.size h.below) (fun r e => (own_iscells h.row (by rw [← e]; rfl)).1)⟩
theorem Marks.sorted {w wr W1 : World} {base G cap k : Nat} {Ds : List Nat} {e : TypeId} {xs : List Value} (h : Marks w.heap.size Ds wr) (hrow : wr.ownsRow base e 2 (.slice (some ⟨G, 0, none⟩) k cap) k xs) (hg : wr.grownBy W1 (some G)) : Marks w.heap.size Ds W1 :=
  h.grown hg (fun r o e ho => by
    cases e
    obtain ⟨_, o', ho', _, h3⟩ := own_iscells hrow (g := G) rfl
    exact ⟨o', ho', h3⟩)
/-- The result's box, the row beside it. -/
structure OutI (w : World) (B6 : Nat) (cs : Array Value) (v : Value) (k : Nat) (xs : List Value) (Ds : List Nat) (W : World) : Prop where
  b6 : Blk W B6 64 cs
  row : W.ownsRow w.heap.size 62 2 v k xs
  below : Below w.heap.size w W
  marks : Marks w.heap.size Ds W
theorem OutI.set {w W : World} {B6 k : Nat} {cs : Array Value} {v : Value} {xs : List Value} {Ds : List Nat} (h : OutI w B6 cs v k xs Ds W) (h6 : w.heap.size ≤ B6) (i : Nat) (u : Value) : OutI w B6 (cs.setIfInBounds i u) v k xs Ds (W.setCell ⟨B6, i, none⟩ u) :=
  ⟨h.b6.set_ i u, h.row.kept (grownBy_set _ _ _) (.inr (own_blk_ne h.row h.b6 (by decide))), h.below.grown (grownBy_set _ _ _) (Below.size h.below) (fun r e => by cases e; exact h6), h.marks.setCell h.b6 u⟩
theorem results_row {P : Program} {fn : Func} {p : Tmp} {ty : TypeId} (h : fn.results = #[.cell p ty]) (tmps : Array Value) (w : World) (g : Nat) (t : TypeId) (cs : Array Value) (d : TypeDesc)
    (hp : tmps.getD p undef = .pointer (some ⟨g, 0, none⟩)) (hg : Blk w g t cs)
    (hu : P.underlying ty = some d) (hd : (match d with | .struct _ | .array _ _ => true | _ => false) = true) (hi : (P.info? ty).map (·.size) = some cs.size) :
    (results fn tmps).run P w = .ok (.agg cs) w := results_cell_row h tmps w g t cs (0, 0) d hp hg hu hd hi

set_option maxRecDepth 100000 in
set_option maxHeartbeats 4000000 in
theorem area_any (b n : Nat) (g : Int → Int → Int) (level : Int) (corners : Bool) (r c : Int) (w : World) (hM : FMap w b n g) (hn : n ≤ 100000) (hkn : Hid (∀ x y, 0 ≤ g x y → (-100000 ≤ x ∧ x ≤ 100023) ∧ (-100000 ≤ y ∧ y ≤ 100023))) (_hbd : Hid (∀ x y, g x y ≤ 1000000000)) (ha : abv g r c level = true) :
    Calls Tryz.prog 36 #[.map (some b), .agg #[.int .i64 level, .bool corners], .agg #[.int .i64 r, .int .i64 c]] w fun e w' => ∃ v cs, e = .returned (.agg #[v, .int .i64 (peakV g cs).1, .int .i64 (peakV g cs).2, .int .i64 (g (peakV g cs).1 (peakV g cs).2)]) ∧
      AreaOk g level corners (r, c) cs ∧ w'.ownsRow w.heap.size 62 2 v cs.length (cellsC cs) ∧ Below w.heap.size w w' := by
  have hmm := @run_makeMap Tryz.prog
  have HA := Lib.hid ha; clear ha
  obtain ⟨hg0, hg1⟩ := (abv_iff g r c level).1 HA.out
  obtain ⟨hr, hc⟩ := hkn.out r c hg0
  have wrr : W64 r := by unfold W64; omega
  have wc : W64 c := by unfold W64; omega
  refine callsIn_wide.1 (callsIn_of_wp_marks (F := Fence.wide) (n := 5) Tryz.func36 rfl trivial (wpIn_wide.2 ?_) rfl)
  simp only [Tryz.ntmps36, List.size_toArray, List.length_cons, List.length_nil, Nat.reduceAdd, Nat.reduceSub, Array.replicate_succ, Array.replicate_zero, List.push_toArray, List.append_toArray, List.nil_append, List.cons_append]
  have b3 := (((Blk.new w 90 #[.map (some b)]).alloc (.cells #[.int .i64 level, .bool corners] 41)).alloc (.cells #[.int .i64 r, .int .i64 c] 62)).alloc (.cells #[.slice none 0 0, .int .i64 0, .int .i64 0, .int .i64 0] 64)
  have b4 := ((Blk.new (w.alloc (.cells #[.map (some b)] 90)) 41 #[.int .i64 level, .bool corners]).alloc (.cells #[.int .i64 r, .int .i64 c] 62)).alloc (.cells #[.slice none 0 0, .int .i64 0, .int .i64 0, .int .i64 0] 64)
  have b5 := (Blk.new ((w.alloc (.cells #[.map (some b)] 90)).alloc (.cells #[.int .i64 level, .bool corners] 41)) 62 #[.int .i64 r, .int .i64 c]).alloc (.cells #[.slice none 0 0, .int .i64 0, .int .i64 0, .int .i64 0] 64)
  have b6 := Blk.new (((w.alloc (.cells #[.map (some b)] 90)).alloc (.cells #[.int .i64 level, .bool corners] 41)).alloc (.cells #[.int .i64 r, .int .i64 c] 62)) 64 #[.slice none 0 0, .int .i64 0, .int .i64 0, .int .i64 0]
  have hMw := (((hM.alloc (.cells #[.map (some b)] 90)).alloc (.cells #[.int .i64 level, .bool corners] 41)).alloc (.cells #[.int .i64 r, .int .i64 c] 62)).alloc (.cells #[.slice none 0 0, .int .i64 0, .int .i64 0, .int .i64 0] 64)
  have hBB : Below w.heap.size w ((((w.alloc (.cells #[.map (some b)] 90)).alloc (.cells #[.int .i64 level, .bool corners] 41)).alloc (.cells #[.int .i64 r, .int .i64 c] 62)).alloc (.cells #[.slice none 0 0, .int .i64 0, .int .i64 0, .int .i64 0] 64)) := (by repeat (first | (with_reducible exact Below.refl _ _) | (with_reducible assumption) | ((with_reducible refine Below.setCell ?_ ?_ _); rotate_left; · (first | exact Nat.le_refl _ | (simp; done) | (simp; omega) | omega)) | ((with_reducible refine Below.alloc ?_ ?_ _); rotate_left; · (first | exact Nat.le_refl _ | (simp; done) | (simp; omega) | omega)) | (with_reducible apply Below.drew) | (with_reducible apply below_drewN') | (refine Below.trans ?_ (Below.mono (by assumption) (by first | exact Nat.le_refl _ | (simp; done) | (simp; omega) | omega))) | exact Below.refl _ _ | assumption))
  have hS0 := BMap.made ((((w.alloc (.cells #[.map (some b)] 90)).alloc (.cells #[.int .i64 level, .bool corners] 41)).alloc (.cells #[.int .i64 r, .int .i64 c] 62)).alloc (.cells #[.slice none 0 0, .int .i64 0, .int .i64 0, .int .i64 0] 64))
  simp only [World.size_alloc] at b4 b5 b6 hS0
  obtain ⟨wi, hrun, hS, hgi⟩ := hS0.put Tryz.underlying96 (by unfold maxLen; omega) true wrr wc
  have gne : ∀ {k : Nat}, k < w.heap.size + 1 + 1 + 1 + 1 → some k ≠ some (w.heap.size + 1 + 1 + 1 + 1) := fun hk e => by have := Option.some.inj e; omega
  replace b3 := (b3.alloc (.map #[] 0)).grown hgi (gne (by omega))
  replace b4 := (b4.alloc (.map #[] 0)).grown hgi (gne (by omega))
  replace b5 := (b5.alloc (.map #[] 0)).grown hgi (gne (by omega))
  replace b6 := (b6.alloc (.map #[] 0)).grown hgi (gne (by omega))
  replace hMw := (hMw.alloc (.map #[] 0)).kept hgi (gne (by have := hM.lt; omega))
  replace hBB := (hBB.alloc (Below.size hBB) (.map #[] 0)).grown hgi (by simp; omega) (fun k e => by cases e; omega)
  have c3 := b3.cell 0
  obtain ⟨c40, c41, _⟩ := blk2c b4
  obtain ⟨c50, c51, _⟩ := blk2c b5
  obtain ⟨c60, c61, c62, c63, _⟩ := blk4 b6
  have l3 := b3.lt; have l4 := b4.lt; have l5 := b5.lt; have l6 := b6.lt
  have lM := hMw.lt; have lS := hS.lt
  go_wp2_with fail
  have d7 := ((Blk.new wi 96 #[.map (some (w.heap.size + 1 + 1 + 1 + 1))]).alloc (.cells #[.int .i64 r, .int .i64 c] 62)).alloc (.cells #[.slice (some ⟨wi.heap.size + 1, 0, none⟩) 1 1, .int .i64 0, .int .i64 0, .int .i64 0] 64)
  have dr := (Blk.new (wi.alloc (.cells #[.map (some (w.heap.size + 1 + 1 + 1 + 1))] 96)) 62 #[.int .i64 r, .int .i64 c]).alloc (.cells #[.slice (some ⟨wi.heap.size + 1, 0, none⟩) 1 1, .int .i64 0, .int .i64 0, .int .i64 0] 64)
  have d8 := Blk.new ((wi.alloc (.cells #[.map (some (w.heap.size + 1 + 1 + 1 + 1))] 96)).alloc (.cells #[.int .i64 r, .int .i64 c] 62)) 64 #[.slice (some ⟨wi.heap.size + 1, 0, none⟩) 1 1, .int .i64 0, .int .i64 0, .int .i64 0]
  have hgr : Gr wi (((wi.alloc (.cells #[.map (some (w.heap.size + 1 + 1 + 1 + 1))] 96)).alloc (.cells #[.int .i64 r, .int .i64 c] 62)).alloc (.cells #[.slice (some ⟨wi.heap.size + 1, 0, none⟩) 1 1, .int .i64 0, .int .i64 0, .int .i64 0] 64)) := show Below wi.heap.size wi _ from (by repeat (first | (with_reducible exact Below.refl _ _) | (with_reducible assumption) | ((with_reducible refine Below.setCell ?_ ?_ _); rotate_left; · (first | exact Nat.le_refl _ | (simp; done) | (simp; omega) | omega)) | ((with_reducible refine Below.alloc ?_ ?_ _); rotate_left; · (first | exact Nat.le_refl _ | (simp; done) | (simp; omega) | omega)) | (with_reducible apply Below.drew) | (with_reducible apply below_drewN') | (refine Below.trans ?_ (Below.mono (by assumption) (by first | exact Nat.le_refl _ | (simp; done) | (simp; omega) | omega))) | exact Below.refl _ _ | assumption))
  simp only [World.size_alloc] at d8 dr
  obtain ⟨Wx, hWx⟩ : ∃ Wx, ((wi.alloc (.cells #[.map (some (w.heap.size + 1 + 1 + 1 + 1))] 96)).alloc (.cells #[.int .i64 r, .int .i64 c] 62)).alloc (.cells #[.slice (some ⟨wi.heap.size + 1, 0, none⟩) 1 1, .int .i64 0, .int .i64 0, .int .i64 0] 64) = Wx := ⟨_, rfl⟩
  rw [hWx] at d7 dr d8 hgr ⊢
  clear hWx
  have hzi := Below.size hBB
  have hAI : ArI w b n (w.heap.size + 1 + 1 + 1 + 1) w.heap.size (w.heap.size + 1) (w.heap.size + 1 + 1 + 1) wi.heap.size (wi.heap.size + 1 + 1) g level corners [(r, c)] (.slice (some ⟨wi.heap.size + 1, 0, none⟩) 1 1) Wx :=
    ⟨b3.gr hgr, b4.gr hgr, b6.gr hgr, d7, d8, hMw.gr hgr, by
      have hq := hS.gr hgr
      have e : (fun x y => decide ((x, y) ∈ [(r, c)])) = upd (fun _ _ => false) r c true := by
        funext x y
        unfold upd
        by_cases h : x = r ∧ y = c
        · rw [if_pos h]; simp [h]
        · rw [if_neg h]; simpa using h
      rw [e]; exact hq, ⟨rfl, .inr ⟨wi.heap.size + 1, 1, #[.int .i64 r, .int .i64 c], rfl, by omega, dr, Nat.le_refl _, by unfold maxLen; omega, rfl, rfl⟩⟩, hBB.trans (Below.mono hgr hzi)⟩
  have hBf := Bfs.start g level corners (r, c)
  have h68 : w.heap.size + 1 + 1 + 1 ≠ wi.heap.size + 1 + 1 := by omega
  clear d7 dr d8 hgr b3 b4 b5 b6 hMw hBB hS hgi hrun c3 c40 c41 c50 c51 c60 c61 c62 c63 l3 l4 l5 l6 lM lS hS0 gne
  obtain ⟨S, hS⟩ : ∃ S, w.heap.size + 1 + 1 + 1 + 1 = S := ⟨_, rfl⟩
  obtain ⟨B6, hB6⟩ : ∃ B6, w.heap.size + 1 + 1 + 1 = B6 := ⟨_, rfl⟩
  obtain ⟨B4, hB4⟩ : ∃ B4, w.heap.size + 1 = B4 := ⟨_, rfl⟩
  obtain ⟨B8, hB8⟩ : ∃ B8, wi.heap.size + 1 + 1 = B8 := ⟨_, rfl⟩
  obtain ⟨B7, hB7⟩ : ∃ B7, wi.heap.size = B7 := ⟨_, rfl⟩
  rw [hS, hB6, hB4, hB8] at hAI
  rw [hB6, hB8] at h68
  rw [hB8, hS, hB6, hB4]
  rw [hB7] at hAI ⊢
  have q6 : w.heap.size ≤ B6 ∧ w.heap.size ≤ B8 ∧ w.heap.size ≤ S ∧ w.heap.size ≤ B7 := by omega
  have hl := area_loop b n S B4 B6 B7 B8 g level corners (r, c) w hn hM.lt h68 hkn HA q6
  unfold bodyOf at hl
  conv at hl in (Option.getD _ Code.skip) => whnf
  refine hl _ ?_ 0 _ _ [] _ (by omega) hBf hAI (Marks.nil _ _)
  clear hl hBf hAI
  intro t0 t1 t2 t5 t10 t11 t12 t13 t14 t15 t16 t17 t18 t19 t20 t21 t22 t23 t24 t25 t26 t27 t28 t29 t30 t31 t32 t33 t34 t35 t36 t37 t38 t39 t40 t41 t42 t43 t44 t45 t46 t47 t48 t49 t50 t51 t52 t53 t54 t55 t56 t57 t58 t59 t60 t61 t62 t63 t64 t65 t66 t67 t68 t69 t70 t71 t72 t73 t74 t75 t76 t77 t78 t79 t80 t81 t82 t83 t84 t85 i L v Ds wr hBf hAI hMk
  have hb := hM.lt
  have hpos : 0 < L.length := List.length_pos_of_mem hBf.has
  obtain ⟨G, cap, rfl, hG, hGl⟩ := hAI.row.form hpos
  have hcs : ∀ x ∈ L, 0 ≤ g x.1 x.2 ∧ W64 x.1 ∧ W64 x.2 := fun x hx => by
    obtain ⟨gx, _⟩ := (abv_iff _ _ _ _).1 ((hBf.conn x hx).abv HA.out)
    obtain ⟨a1, a2⟩ := hkn.out _ _ gx
    exact ⟨gx, by unfold W64; omega, by unfold W64; omega⟩
  have hlen : L.length ≤ n := hAI.hM.count hBf.nodup hcs
  have HC : Hid (∀ x ∈ sortC L, 0 ≤ g x.1 x.2 ∧ W64 x.1 ∧ W64 x.2) := Lib.hid (fun x hx => hcs x ((sortC_perm L).mem_iff.1 hx))
  have HAR : Hid (AreaOk g level corners (r, c) (sortC L)) := Lib.hid hBf.area
  have HAI := Lib.hid hAI; have HMK := Lib.hid hMk
  have e8 := hAI.b8; have l8 := e8.lt
  obtain ⟨c80, c81, c82, c83, f8⟩ := blk4 e8
  clear hcs hBf hAI hMk wrr wc hg0 hg1 hr hc hmm
  go_wp2_with (go_at_call 34; refine (sortC_any w.heap.size G cap L _ HAI.out.row (by omega)).mono ?_; rintro e W1 ⟨rfl, hrow1, hg1⟩; refine RowKit.Hid.out ?_)
  refine Lib.hid ?_
  have hP0 := PkI.of_sort HAI.out hg1 hrow1 hb
  have hM1 := HMK.out.sorted HAI.out.row hg1
  have hls := sortC_length L
  obtain ⟨cs, hcs⟩ : ∃ cs, sortC L = cs := ⟨_, rfl⟩
  rw [hcs] at hP0 HC HAR hls
  clear hcs hrow1 HAI HMK e8 c80 c81 c82 c83 f8 l8 hg1 hGl
  have hposc : 0 < cs.length := by omega
  have HLS : Hid (cs.length ≤ 100000) := Lib.hid (by omega)
  clear hls hlen hpos
  obtain ⟨z0, z1⟩ := rowCell hP0.row hposc
  obtain ⟨z, hz⟩ : ∃ z, cs[0] = z := ⟨_, rfl⟩
  have HZ : Hid (cs.headD (0, 0) = z) := Lib.hid (by rw [← hz]; cases cs with | nil => simp at hposc | cons a l => rfl)
  have HZM : Hid (z ∈ cs) := Lib.hid (by rw [← hz]; exact List.getElem_mem hposc)
  rw [hz] at z0 z1
  rw [Nat.zero_mul] at z0 z1
  clear hz
  have e8 := hP0.b8; have l8 := e8.lt; have l3 := hP0.b3.lt
  obtain ⟨c80, c81, c82, c83, f8⟩ := blk4 e8
  obtain ⟨_, _, _, hGW⟩ := hP0.row.form hposc
  have hG8 : G ≠ B8 := fun e => own_blk_ne hP0.row e8 (by decide) (by rw [← e]; rfl)
  have hP1 := Lib.hid (hP0.peak hb h68 q6.2.1 z.1 z.2)
  have HM1 := Lib.hid ((hM1.setCell e8 (o := 1) (.int .i64 z.1)).setCell (e8.set_ 1 _) (o := 2) (.int .i64 z.2))
  clear hP0 hM1 e8
  go_wp2_with fail
  have hl2 := peak_loop b n B6 B8 G cap g cs w hb h68 q6.2.1 HC HLS.out Ds
  unfold bodyOf at hl2
  conv at hl2 in (Option.getD _ Code.skip) => whnf
  refine hl2 _ ?_ z HZ.out HZM.out _ hP1.out HM1.out
  clear hl2 hP1 HM1 HZ HZM z0 z1 c80 c81 c82 c83 f8 l8 l3 hG hGW hG8
  intro t0 t1 t2 t4 t5 t7 t9 t10 t11 t12 t13 t14 t15 t16 t17 t18 t19 t20 t21 t22 t23 t24 t25 t26 t27 t28 t29 t30 t31 t32 t33 t34 t35 t36 t37 t38 t39 t40 t41 t42 t43 t44 t45 t46 t47 t48 t49 t50 t51 t52 t53 t54 t55 t56 t57 t58 t59 t60 t61 t62 t66 t67 t68 t69 t70 t71 t72 t73 t74 t75 t76 t77 t78 t79 t80 t81 t82 t83 t84 t85 w2 hpm hP hMk
  obtain ⟨gp, p1, p2⟩ := HC.out _ hpm
  have HPV : Hid (∀ q, peakV g cs = q → PkI w b n B6 B8 G cap g cs q 0 w2) := Lib.hid (fun q e => by rw [← e]; exact hP)
  obtain ⟨q, hq⟩ : ∃ q, peakV g cs = q := ⟨_, rfl⟩
  rw [hq] at gp p1 p2
  have hP := HPV.out q hq
  have HQV := Lib.hid hq
  have hlk := hP.hM.look Tryz.underlying90 p1 p2
  rw [show pos (g q.1 q.2) = g q.1 q.2 from if_pos gp] at hlk
  have e3 := hP.b3; have c3 := e3.cell 0; have l3 := e3.lt
  have e6 := hP.b6; have l6 := e6.lt
  have e8 := hP.b8; have l8 := e8.lt
  obtain ⟨c60, c61, c62, c63, f6⟩ := blk4 e6
  obtain ⟨c80, c81, c82, c83, f8⟩ := blk4 e8
  have hPA := hP.amp hb h68 q6.2.1 (g q.1 q.2)
  have hO := Lib.hid (((((OutI.mk hPA.b6 hPA.row hPA.below (hMk.setCell e8 (o := 3) (.int .i64 (g q.1 q.2)))).set q6.1 0 (.slice (some ⟨G, 0, none⟩) cs.length cap)).set q6.1 1 (.int .i64 q.1)).set q6.1 2 (.int .i64 q.2)).set q6.1 3 (.int .i64 (g q.1 q.2)))
  clear hpm hq gp HPV hMk hPA hP e3 e6 e8
  go_wp2_with fail
  refine ret_marks hO.out.marks fun w' hs => ⟨_, results_row (t := 64) (cs := #[.slice (some ⟨G, 0, none⟩) cs.length cap, .int .i64 q.1, .int .i64 q.2, .int .i64 (g q.1 q.2)]) rfl _ _ B6 _ rfl (hs.blk hO.out.b6) Tryz.underlying64 rfl (by kernel_rfl), ?_⟩
  exact ⟨_, cs, by rw [HQV.out], HAR.out, hs.own hO.out.row, hO.out.below.trans hs.below⟩
end Go.Proofs.YtjimdnmdnjhnjaaGreatDoor
