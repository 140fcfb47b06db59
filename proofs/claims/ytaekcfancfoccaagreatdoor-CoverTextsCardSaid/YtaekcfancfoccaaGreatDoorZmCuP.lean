/- The reference's face: the face is appended to a copy of the joint's. -/
import Derived.Laws.AppendOwnNone
import Derived.Test.YtaekcfancfoccaaGreatDoorZmCuN
namespace Go.Proofs.YtaekcfancfoccaaGreatDoor
open Go.RowKit Go.Lib

theorem KeepsTwo.app {jb base : Nat} {row : Option Nat} {W X Y : World} (h : KeepsTwo jb none W X) (hg : X.grownBy Y row) (hob : ∀ q, row = some q → base ≤ q) (hb : W.heap.size = base) : KeepsTwo jb none W Y :=
  ⟨⟨hg.os.trans h.rest.1, hg.tape.trans h.rest.2.1, hg.output.trans h.rest.2.2⟩, Nat.le_trans h.size hg.size, fun g hG h1 h2 => (hg.block g (by have := h.size; omega) (fun e => by have := hob _ e.symm; omega)).trans (h.same g hG h1 h2)⟩
theorem wp_append_none {P : Program} (w : World) {o : Oper} {a : Act} {K : Act → World → Prop} {Q : Exit → Act → World → Prop} (s x : Operand) (t : TypeId)
    (ho : o.op = .call { callee := .builtin .append, args := #[s, x], argTypes := #[t, t] })
    (base : Nat) (e : TypeId) (i : TypeInfo) (size : Nat) (ht : P.underlying t = some (.slice e)) (hi : P.info? e = some i)
    (v : Value) (n : Nat) (xs : List Value) (hs : a.eval s = v) (hown : w.ownsRow base e size v n xs) (hx : a.eval x = .slice none 0 0) (h : K (a.put o.dst v) w) : o.wp P a w K Q := by
  have hrun := run_append_owned_none (P := P) (w := w) base t o.type e i size ht hi v n xs hown
  unfold Oper.wp
  simp [execOp, ho, resolve, invoke, builtin, hs, hx, hrun, Result.andThen]
  exact h
set_option maxRecDepth 100000 in
set_option maxHeartbeats 8000000 in
theorem faceReg24_some {W : World} {jb gz base : Nat} {j : Jo} {nm : ByteArray} {n2 n3 n4 n5 : Int} {ad : Addr} {cf : Nat} (R : Row W base 5 (some ad) j.fs.length (fcsC j.fs)) (bj : Blk W jb 24 #[.string j.nm, .int .i64 j.thick, .int .i64 j.zone, .slice (some ad) j.fs.length cf]) (bz : Blk W gz 83 #[.string nm, .int .i64 n2, .int .i64 n3, .int .i64 n4, .int .i64 n5])
    (hjb : jb < base) (hgz : gz < base) (hbase : W.heap.size = base) (hlen : j.fs.length ≤ 12) {t0 t1 t3 t4 t5 t6 t7 t8 t9 t11 t12 t13 t14 t15 t16 t17 t18 t19 t20 t21 t22 t23 t24 t25 t26 t27 t28 t29 t30 t31 t32 t33 t34 t35 t36 t37 t38 t39 t40 t41 t42 t43 t44 t45 t46 t47 t48 t49 t50 t51 t52 t53 t54 t55 t56 t57 t58 t59 t60 t61 t62 t63 t64 t65 t66 t67 t68 t69 t70 t71 t72 t73 t74 t75 t76 t77 t78 t79 t80 t81 t82 t83 t84 t85 t86 t87 t88 t89 t90 t91 t92 t93 t94 t95 t96 t97 t98 t99 t100 t101 t102 t103 t104 t105 t106 t107 t108 t109 t110 t111 : Value} {ds : List Deferred} (Q : Exit → Act → World → Prop)
    (h : ∀ (t103 t104 t105 t106 t107 t108 t109 t110 : Value) (A' : Option Addr) (c' : Nat) (w' : World), Blk w' jb 24 (joC { j with fs := j.fs ++ [(nm, ⟨n2, n3, n4, n5⟩)] } A' c') → w'.ownsRow base 83 5 (.slice A' (j.fs.length + 1) c') (j.fs.length + 1) (fcsC (j.fs ++ [(nm, ⟨n2, n3, n4, n5⟩)])) →
      KeepsTwo jb none W w' → Q .normal ⟨#[t0, t1, .pointer (some ⟨jb, 0, none⟩), t3, t4, t5, t6, t7, t8, t9, .pointer (some ⟨gz, 0, none⟩), t11, t12, t13, t14, t15, t16, t17, t18, t19, t20, t21, t22, t23, t24, t25, t26, t27, t28, t29, t30, t31, t32, t33, t34, t35, t36, t37, t38, t39, t40, t41, t42, t43, t44, t45, t46, t47, t48, t49, t50, t51, t52, t53, t54, t55, t56, t57, t58, t59, t60, t61, t62, t63, t64, t65, t66, t67, t68, t69, t70, t71, t72, t73, t74, t75, t76, t77, t78, t79, t80, t81, t82, t83, t84, t85, t86, t87, t88, t89, t90, t91, t92, t93, t94, t95, t96, t97, t98, t99, t100, t101, t102, t103, t104, t105, t106, t107, t108, t109, t110, t111], ds⟩ w') :
    (regOf Tryz.f46 24).wp Tryz.prog Q ⟨#[t0, t1, .pointer (some ⟨jb, 0, none⟩), t3, t4, t5, t6, t7, t8, t9, .pointer (some ⟨gz, 0, none⟩), t11, t12, t13, t14, t15, t16, t17, t18, t19, t20, t21, t22, t23, t24, t25, t26, t27, t28, t29, t30, t31, t32, t33, t34, t35, t36, t37, t38, t39, t40, t41, t42, t43, t44, t45, t46, t47, t48, t49, t50, t51, t52, t53, t54, t55, t56, t57, t58, t59, t60, t61, t62, t63, t64, t65, t66, t67, t68, t69, t70, t71, t72, t73, t74, t75, t76, t77, t78, t79, t80, t81, t82, t83, t84, t85, t86, t87, t88, t89, t90, t91, t92, t93, t94, t95, t96, t97, t98, t99, t100, t101, t102, t103, t104, t105, t106, t107, t108, t109, t110, t111], ds⟩ W := by
  have H := Lib.hid h; clear h
  obtain ⟨i0, hi, iz0, iz1, iz2⟩ := info_parts infoFace
  have K2 : KeepsTwo jb none W W.drew := ⟨⟨rfl, rfl, rfl⟩, Nat.le_refl _, fun _ _ _ _ => rfl⟩
  replace bj := bj.drew
  replace bz := bz.drew
  have hbs : base ≤ W.drew.heap.size := Nat.le_of_eq hbase.symm
  have hwb : ∀ g, g < W.heap.size → g < base := fun g hg => by omega
  have HBS := Lib.hid hbase
  clear hbase hwb
  replace R : Row W.drew base 5 (some ad) j.fs.length (fcsC j.fs) := R
  conv in (regOf _ _) => whnf
  refine wp_region_w (fun w' => Blk w' gz 83 #[.string nm, .int .i64 n2, .int .i64 n3, .int .i64 n4, .int .i64 n5]) (by kernel_rfl) (bz) ?_
  refine wpW_det (t' := ?ct1R1) 1 (by rfl) (by kernel_rfl) (NQ_free _) (by kernel_rfl) ?cw1R1 ?ch1R1 ?ca1R1 (Eq.refl _) ?cH1R1
  case cw1R1 => (go_simp; done)
  case ch1R1 =>
    intro ds w' hS K hK
    obtain ⟨z0, z1, z2, z3, z4, zf⟩ := blk5 hS
    have lz := Blk.lt hS
    go_simp
    try go_bits
    exact hK _ hS (Gr.refl _)
  case ca1R1 => (first | (simp [Act.put]; done) | (simp [Act.put, *]; done))
  try dsimp only
  refine wpW_det (t' := ?ct4R1) 4 (by rfl) (by kernel_rfl) (NQ_free _) (by kernel_rfl) ?cw4R1 ?ch4R1 ?ca4R1 (Eq.refl _) ?cH4R1
  case cw4R1 => (go_simp; done)
  case ch4R1 =>
    intro ds w' hS K hK
    obtain ⟨z0, z1, z2, z3, z4, zf⟩ := blk5 hS
    have lz := Blk.lt hS
    go_simp
    try go_bits
    exact hK _ hS (Gr.refl _)
  case ca4R1 => (first | (simp [Act.put]; done) | (simp [Act.put, *]; done))
  try dsimp only
  refine wpW_branch [0, 2, 5] (by kernel_rfl) (by simp) ?_
  intro w1 hg1 hS1
  replace bj := Blk.gr bj hg1
  replace bz := Blk.gr bz hg1
  replace K2 := KeepsTwo.gr K2 hg1
  try replace R := R.below hg1 hbs
  skip
  replace hbs := Nat.le_trans hbs (Below.size hg1)
  try clear j0 j1 j2 j3 jf lj
  obtain ⟨j0, j1, j2, j3, jf⟩ := blk4 bj
  have lj := bj.lt
  refine each_cons ?_ (each_cons ?_ (each_cons ?_ (each_nil)))
  · refine wpOp_go (by rfl) (Eq.refl _) (by go_simp; done) ?_
    intro K hK
    go_simp
    try simp only [Act.put]
    try (have nne : some gn ≠ (Value.slice (some ⟨w1.heap.size, 0, none⟩) 0 0).ownBlock := fun e => by have h1 := bn.lt; simp [Value.ownBlock] at e; omega)
    have hal : Gr w1 (w1.alloc (.cells #[] 83)) := (Below.refl _ _).alloc (Nat.le_refl _) _
    have o3 : (w1.alloc (.cells #[] 83)).ownsRow base 83 5 (.slice (some ⟨w1.heap.size, 0, none⟩) 0 0) 0 [] := by
      have h := World.ownsRow_made (base := base) (e := 83) (size := 5) w1 #[] 0 hbs (by decide) rfl
      simpa using h
    replace bj := Blk.gr bj hal
    replace bz := Blk.gr bz hal
    replace K2 := KeepsTwo.gr K2 hal
    try replace R := R.below hal hbs
    replace hbs := Nat.le_trans hbs (Below.size hal)
    try replace bn := Blk.gr bn hal
    clear hal
    try clear j0 j1 j2 j3 jf lj
    generalize w1.heap.size = ge at *
    refine hK _ _ bz ?_
    clear hK K
    refine wpW_branch [2, 5] (by kernel_rfl) (by simp) ?_
    intro w2 hg2 hS2
    replace bj := Blk.gr bj hg2
    replace bz := Blk.gr bz hg2
    replace K2 := KeepsTwo.gr K2 hg2
    try replace R := R.below hg2 hbs
    skip
    replace hbs := Nat.le_trans hbs (Below.size hg2)
    try clear j0 j1 j2 j3 jf lj
    obtain ⟨j0, j1, j2, j3, jf⟩ := blk4 bj
    have lj := bj.lt
    replace o3 := own_below o3 hg2
    refine each_cons ?_ (each_cons ?_ (each_nil))
    · refine wpOp_go (by rfl) (Eq.refl _) (by go_simp; done) ?_
      intro K hK
      go_simp
      try simp only [Act.put]
      refine hK _ _ bz ?_
      clear hK K
      refine wpW_branch [3, 5] (by kernel_rfl) (by simp) ?_
      intro w3 hg3 hS3
      replace bj := Blk.gr bj hg3
      replace bz := Blk.gr bz hg3
      replace K2 := KeepsTwo.gr K2 hg3
      try replace R := R.below hg3 hbs
      skip
      replace hbs := Nat.le_trans hbs (Below.size hg3)
      replace o3 := own_below o3 hg3
      refine each_cons ?_ (each_cons ?_ (each_nil))
      · refine wpOp_go (by rfl) (Eq.refl _) (by go_simp; done) ?_
        intro K hK
        refine wp_append_at _ (.tmp 103) (.tmp 105) 22 rfl base 83 i0 _ 5 48 Tryz.underlying22 hi iz0 iz1 iz2 rfl (by decide) _ 0 [] rfl o3 ad j.fs.length cf (fcsC j.fs) rfl R.1 (facesC_cells R) (fcsC_one j.fs) (by unfold maxLen; omega) (by omega) hbs ?_
        intro u11 wa hown' hgrow hat
        have hob := fun q e => (o3.lt q e).1
        replace bj := bj.grown hgrow (fun e => by have := hob _ e.symm; omega)
        replace bz := bz.grown hgrow (fun e => by have := hob _ e.symm; omega)
        try replace bn := bn.grown hgrow nne
        replace K2 := K2.app hgrow hob HBS.out
        replace hbs := Nat.le_trans hbs hgrow.size
        have o6 : wa.ownsRow base 83 5 u11 j.fs.length (fcsC j.fs) := by simpa using hown'
        clear hown' hgrow hat hob o3
        try clear j0 j1 j2 j3 jf lj
        obtain ⟨A6, c6, hv6, _⟩ := Row.own o6
        subst hv6
        try simp only [Act.put]
        try simp only [List.setIfInBounds_toArray]
        refine hK _ _ bz ?_
        clear hK K
        refine wpW_branch [5] (by kernel_rfl) (by simp) ?_
        intro w4 hg4 hS4
        replace bj := Blk.gr bj hg4
        replace bz := Blk.gr bz hg4
        replace K2 := KeepsTwo.gr K2 hg4
        replace hbs := Nat.le_trans hbs (Below.size hg4)
        replace o6 := own_below o6 hg4
        refine each_cons ?_ (each_nil)
        refine wpOp_go (by rfl) (Eq.refl _) (by go_simp; done) ?_
        intro K hK
        go_simp
        try simp only [Act.put]
        try (have nne : some w4.heap.size ≠ (Value.slice (some ⟨ge, 0, none⟩) 0 0).ownBlock := own_ne o3 (.inr (Nat.le_refl _)))
        have bn := Blk.new w4 83 #[.string nm, .int .i64 n2, .int .i64 n3, .int .i64 n4, .int .i64 n5]
        have hgn : base ≤ w4.heap.size := hbs
        have hal : Gr w4 (w4.alloc (.cells #[.string nm, .int .i64 n2, .int .i64 n3, .int .i64 n4, .int .i64 n5] 83)) := (Below.refl _ _).alloc (Nat.le_refl _) _
        replace bj := Blk.gr bj hal
        replace bz := Blk.gr bz hal
        replace K2 := KeepsTwo.gr K2 hal
        try replace R := R.below hal hbs
        replace hbs := Nat.le_trans hbs (Below.size hal)
        try replace o3 := own_below o3 hal
        try replace o6 := own_below o6 hal
        clear hal
        try clear j0 j1 j2 j3 jf lj
        generalize w4.heap.size = gn at *
        refine hK _ _ bz ?_
        clear hK K
        refine wpW_branch [6] (by kernel_rfl) (by simp) ?_
        intro w5 hg5 hS5
        replace bj := Blk.gr bj hg5
        replace bz := Blk.gr bz hg5
        replace K2 := KeepsTwo.gr K2 hg5
        replace hbs := Nat.le_trans hbs (Below.size hg5)
        replace o6 := own_below o6 hg5
        replace bn := Blk.gr bn hg5
        refine each_cons ?_ (each_nil)
        refine wpOp_go (by rfl) (Eq.refl _) (by go_simp; done) ?_
        intro K hK
        refine wp_append_at _ (.tmp 106) (.tmp 108) 22 rfl base 83 i0 _ 5 48 Tryz.underlying22 hi iz0 iz1 iz2 rfl (by decide) _ j.fs.length (fcsC j.fs) rfl o6 ⟨gn, 0, none⟩ 1 1 [.string nm, .int .i64 n2, .int .i64 n3, .int .i64 n4, .int .i64 n5] rfl rfl ?hc (by simp [Value.oneCell']) (by unfold maxLen; omega) (by omega) hbs ?_
        case hc =>
          intro j u hj
          rw [Addr.add_lit, Nat.zero_add]
          exact (bn.cell j).trans (by simpa using hj)
        intro u12 wa hown' hgrow hat
        have hob := fun q e => (o6.lt q e).1
        replace bj := bj.grown hgrow (fun e => by have := hob _ e.symm; omega)
        replace bz := bz.grown hgrow (fun e => by have := hob _ e.symm; omega)
        replace K2 := K2.app hgrow hob HBS.out
        replace hbs := Nat.le_trans hbs hgrow.size
        have o9 : wa.ownsRow base 83 5 u12 (j.fs.length + 1) (fcsC (j.fs ++ [(nm, ⟨n2, n3, n4, n5⟩)])) := by rw [fcsC_snoc]; exact hown'
        clear hown' hgrow hat hob
        obtain ⟨A', c', hv, _⟩ := Row.own o9
        subst hv
        clear o6 bn
        try clear j0 j1 j2 j3 jf lj
        try clear o3
        try clear R
        try simp only [Act.put]
        try simp only [List.setIfInBounds_toArray]
        refine hK _ _ bz ?_
        clear hK K
        refine wpW_branch [7] (by kernel_rfl) (by simp) ?_
        intro w6 hg6 hS6
        replace bj := Blk.gr bj hg6
        replace bz := Blk.gr bz hg6
        replace K2 := KeepsTwo.gr K2 hg6
        replace hbs := Nat.le_trans hbs (Below.size hg6)
        replace o9 := own_below o9 hg6
        refine each_cons ?_ (each_nil)
        refine wpOp_go (by rfl) (Eq.refl _) (by go_simp; done) ?_
        intro K hK
        go_simp
        try simp only [Act.put]
        refine hK _ _ bz ?_
        clear hK K
        refine wpW_branch [8] (by kernel_rfl) (by simp) ?_
        intro w7 hg7 hS7
        replace bj := Blk.gr bj hg7
        replace bz := Blk.gr bz hg7
        replace K2 := KeepsTwo.gr K2 hg7
        replace hbs := Nat.le_trans hbs (Below.size hg7)
        try clear j0 j1 j2 j3 jf lj
        obtain ⟨j0, j1, j2, j3, jf⟩ := blk4 bj
        have lj := bj.lt
        replace o9 := own_below o9 hg7
        refine each_cons ?_ (each_nil)
        refine wpOp_go (by rfl) (Eq.refl _) (by go_simp; done) ?_
        intro K hK
        go_simp
        try simp only [Act.put]
        replace bz := bz.far (p := ⟨jb, 3, none⟩) (Blk.ne_ bz bj (by decide)) (.slice A' (j.fs.length + 1) c')
        replace o9 := o9.kept (grown1 w7 jb 3 (.slice A' (j.fs.length + 1) c')) (.inr (own_blk_ne o9 bj (by decide)))
        replace bj := bj.set_ 3 (.slice A' (j.fs.length + 1) c')
        replace K2 := K2.set 3 (.slice A' (j.fs.length + 1) c')
        refine hK _ _ bz ?_
        clear hK K j0 j1 j2 j3 jf lj hbs
        refine wpW_end (by kernel_rfl) ?_
        intro we hg hS
        unfold NQ
        dsimp only
        replace bj := Blk.gr bj hg
        replace o9 := own_below o9 hg
        replace K2 := K2.gr hg
        refine H.out _ _ _ _ _ _ _ _ A' c' we ?_ o9 K2
        unfold joC
        simpa using bj
      · refine wpOp_go (by rfl) (Eq.refl _) (by go_simp; done) ?_
        intro K hK
        go_simp
        try simp only [Act.put]
        try (have nne : some w3.heap.size ≠ (Value.slice (some ⟨ge, 0, none⟩) 0 0).ownBlock := own_ne o3 (.inr (Nat.le_refl _)))
        have bn := Blk.new w3 83 #[.string nm, .int .i64 n2, .int .i64 n3, .int .i64 n4, .int .i64 n5]
        have hgn : base ≤ w3.heap.size := hbs
        have hal : Gr w3 (w3.alloc (.cells #[.string nm, .int .i64 n2, .int .i64 n3, .int .i64 n4, .int .i64 n5] 83)) := (Below.refl _ _).alloc (Nat.le_refl _) _
        replace bj := Blk.gr bj hal
        replace bz := Blk.gr bz hal
        replace K2 := KeepsTwo.gr K2 hal
        try replace R := R.below hal hbs
        replace hbs := Nat.le_trans hbs (Below.size hal)
        try replace o3 := own_below o3 hal
        try replace o6 := own_below o6 hal
        clear hal
        try clear j0 j1 j2 j3 jf lj
        generalize w3.heap.size = gn at *
        refine hK _ _ bz ?_
        clear hK K
        refine wpW_branch [3] (by kernel_rfl) (by simp) ?_
        intro w4 hg4 hS4
        replace bj := Blk.gr bj hg4
        replace bz := Blk.gr bz hg4
        replace K2 := KeepsTwo.gr K2 hg4
        try replace R := R.below hg4 hbs
        skip
        replace hbs := Nat.le_trans hbs (Below.size hg4)
        replace o3 := own_below o3 hg4
        replace bn := Blk.gr bn hg4
        refine each_cons ?_ (each_nil)
        refine wpOp_go (by rfl) (Eq.refl _) (by go_simp; done) ?_
        intro K hK
        refine wp_append_at _ (.tmp 103) (.tmp 105) 22 rfl base 83 i0 _ 5 48 Tryz.underlying22 hi iz0 iz1 iz2 rfl (by decide) _ 0 [] rfl o3 ad j.fs.length cf (fcsC j.fs) rfl R.1 (facesC_cells R) (fcsC_one j.fs) (by unfold maxLen; omega) (by omega) hbs ?_
        intro u11 wa hown' hgrow hat
        have hob := fun q e => (o3.lt q e).1
        replace bj := bj.grown hgrow (fun e => by have := hob _ e.symm; omega)
        replace bz := bz.grown hgrow (fun e => by have := hob _ e.symm; omega)
        try replace bn := bn.grown hgrow nne
        replace K2 := K2.app hgrow hob HBS.out
        replace hbs := Nat.le_trans hbs hgrow.size
        have o6 : wa.ownsRow base 83 5 u11 j.fs.length (fcsC j.fs) := by simpa using hown'
        clear hown' hgrow hat hob o3
        try clear j0 j1 j2 j3 jf lj
        obtain ⟨A6, c6, hv6, _⟩ := Row.own o6
        subst hv6
        try simp only [Act.put]
        try simp only [List.setIfInBounds_toArray]
        refine hK _ _ bz ?_
        clear hK K
        refine wpW_branch [6] (by kernel_rfl) (by simp) ?_
        intro w5 hg5 hS5
        replace bj := Blk.gr bj hg5
        replace bz := Blk.gr bz hg5
        replace K2 := KeepsTwo.gr K2 hg5
        replace hbs := Nat.le_trans hbs (Below.size hg5)
        replace o6 := own_below o6 hg5
        replace bn := Blk.gr bn hg5
        refine each_cons ?_ (each_nil)
        refine wpOp_go (by rfl) (Eq.refl _) (by go_simp; done) ?_
        intro K hK
        refine wp_append_at _ (.tmp 106) (.tmp 108) 22 rfl base 83 i0 _ 5 48 Tryz.underlying22 hi iz0 iz1 iz2 rfl (by decide) _ j.fs.length (fcsC j.fs) rfl o6 ⟨gn, 0, none⟩ 1 1 [.string nm, .int .i64 n2, .int .i64 n3, .int .i64 n4, .int .i64 n5] rfl rfl ?hc (by simp [Value.oneCell']) (by unfold maxLen; omega) (by omega) hbs ?_
        case hc =>
          intro j u hj
          rw [Addr.add_lit, Nat.zero_add]
          exact (bn.cell j).trans (by simpa using hj)
        intro u12 wa hown' hgrow hat
        have hob := fun q e => (o6.lt q e).1
        replace bj := bj.grown hgrow (fun e => by have := hob _ e.symm; omega)
        replace bz := bz.grown hgrow (fun e => by have := hob _ e.symm; omega)
        replace K2 := K2.app hgrow hob HBS.out
        replace hbs := Nat.le_trans hbs hgrow.size
        have o9 : wa.ownsRow base 83 5 u12 (j.fs.length + 1) (fcsC (j.fs ++ [(nm, ⟨n2, n3, n4, n5⟩)])) := by rw [fcsC_snoc]; exact hown'
        clear hown' hgrow hat hob
        obtain ⟨A', c', hv, _⟩ := Row.own o9
        subst hv
        clear o6 bn
        try clear j0 j1 j2 j3 jf lj
        try clear o3
        try clear R
        try simp only [Act.put]
        try simp only [List.setIfInBounds_toArray]
        refine hK _ _ bz ?_
        clear hK K
        refine wpW_branch [7] (by kernel_rfl) (by simp) ?_
        intro w6 hg6 hS6
        replace bj := Blk.gr bj hg6
        replace bz := Blk.gr bz hg6
        replace K2 := KeepsTwo.gr K2 hg6
        replace hbs := Nat.le_trans hbs (Below.size hg6)
        replace o9 := own_below o9 hg6
        refine each_cons ?_ (each_nil)
        refine wpOp_go (by rfl) (Eq.refl _) (by go_simp; done) ?_
        intro K hK
        go_simp
        try simp only [Act.put]
        refine hK _ _ bz ?_
        clear hK K
        refine wpW_branch [8] (by kernel_rfl) (by simp) ?_
        intro w7 hg7 hS7
        replace bj := Blk.gr bj hg7
        replace bz := Blk.gr bz hg7
        replace K2 := KeepsTwo.gr K2 hg7
        replace hbs := Nat.le_trans hbs (Below.size hg7)
        try clear j0 j1 j2 j3 jf lj
        obtain ⟨j0, j1, j2, j3, jf⟩ := blk4 bj
        have lj := bj.lt
        replace o9 := own_below o9 hg7
        refine each_cons ?_ (each_nil)
        refine wpOp_go (by rfl) (Eq.refl _) (by go_simp; done) ?_
        intro K hK
        go_simp
        try simp only [Act.put]
        replace bz := bz.far (p := ⟨jb, 3, none⟩) (Blk.ne_ bz bj (by decide)) (.slice A' (j.fs.length + 1) c')
        replace o9 := o9.kept (grown1 w7 jb 3 (.slice A' (j.fs.length + 1) c')) (.inr (own_blk_ne o9 bj (by decide)))
        replace bj := bj.set_ 3 (.slice A' (j.fs.length + 1) c')
        replace K2 := K2.set 3 (.slice A' (j.fs.length + 1) c')
        refine hK _ _ bz ?_
        clear hK K j0 j1 j2 j3 jf lj hbs
        refine wpW_end (by kernel_rfl) ?_
        intro we hg hS
        unfold NQ
        dsimp only
        replace bj := Blk.gr bj hg
        replace o9 := own_below o9 hg
        replace K2 := K2.gr hg
        refine H.out _ _ _ _ _ _ _ _ A' c' we ?_ o9 K2
        unfold joC
        simpa using bj
    · refine wpOp_go (by rfl) (Eq.refl _) (by go_simp; done) ?_
      intro K hK
      go_simp
      try simp only [Act.put]
      try (have nne : some w2.heap.size ≠ (Value.slice (some ⟨ge, 0, none⟩) 0 0).ownBlock := own_ne o3 (.inr (Nat.le_refl _)))
      have bn := Blk.new w2 83 #[.string nm, .int .i64 n2, .int .i64 n3, .int .i64 n4, .int .i64 n5]
      have hgn : base ≤ w2.heap.size := hbs
      have hal : Gr w2 (w2.alloc (.cells #[.string nm, .int .i64 n2, .int .i64 n3, .int .i64 n4, .int .i64 n5] 83)) := (Below.refl _ _).alloc (Nat.le_refl _) _
      replace bj := Blk.gr bj hal
      replace bz := Blk.gr bz hal
      replace K2 := KeepsTwo.gr K2 hal
      try replace R := R.below hal hbs
      replace hbs := Nat.le_trans hbs (Below.size hal)
      try replace o3 := own_below o3 hal
      try replace o6 := own_below o6 hal
      clear hal
      try clear j0 j1 j2 j3 jf lj
      generalize w2.heap.size = gn at *
      refine hK _ _ bz ?_
      clear hK K
      refine wpW_branch [2] (by kernel_rfl) (by simp) ?_
      intro w3 hg3 hS3
      replace bj := Blk.gr bj hg3
      replace bz := Blk.gr bz hg3
      replace K2 := KeepsTwo.gr K2 hg3
      try replace R := R.below hg3 hbs
      skip
      replace hbs := Nat.le_trans hbs (Below.size hg3)
      try clear j0 j1 j2 j3 jf lj
      obtain ⟨j0, j1, j2, j3, jf⟩ := blk4 bj
      have lj := bj.lt
      replace o3 := own_below o3 hg3
      replace bn := Blk.gr bn hg3
      refine each_cons ?_ (each_nil)
      refine wpOp_go (by rfl) (Eq.refl _) (by go_simp; done) ?_
      intro K hK
      go_simp
      try simp only [Act.put]
      refine hK _ _ bz ?_
      clear hK K
      refine wpW_branch [3] (by kernel_rfl) (by simp) ?_
      intro w4 hg4 hS4
      replace bj := Blk.gr bj hg4
      replace bz := Blk.gr bz hg4
      replace K2 := KeepsTwo.gr K2 hg4
      try replace R := R.below hg4 hbs
      skip
      replace hbs := Nat.le_trans hbs (Below.size hg4)
      replace o3 := own_below o3 hg4
      replace bn := Blk.gr bn hg4
      refine each_cons ?_ (each_nil)
      refine wpOp_go (by rfl) (Eq.refl _) (by go_simp; done) ?_
      intro K hK
      refine wp_append_at _ (.tmp 103) (.tmp 105) 22 rfl base 83 i0 _ 5 48 Tryz.underlying22 hi iz0 iz1 iz2 rfl (by decide) _ 0 [] rfl o3 ad j.fs.length cf (fcsC j.fs) rfl R.1 (facesC_cells R) (fcsC_one j.fs) (by unfold maxLen; omega) (by omega) hbs ?_
      intro u11 wa hown' hgrow hat
      have hob := fun q e => (o3.lt q e).1
      replace bj := bj.grown hgrow (fun e => by have := hob _ e.symm; omega)
      replace bz := bz.grown hgrow (fun e => by have := hob _ e.symm; omega)
      try replace bn := bn.grown hgrow nne
      replace K2 := K2.app hgrow hob HBS.out
      replace hbs := Nat.le_trans hbs hgrow.size
      have o6 : wa.ownsRow base 83 5 u11 j.fs.length (fcsC j.fs) := by simpa using hown'
      clear hown' hgrow hat hob o3
      try clear j0 j1 j2 j3 jf lj
      obtain ⟨A6, c6, hv6, _⟩ := Row.own o6
      subst hv6
      try simp only [Act.put]
      try simp only [List.setIfInBounds_toArray]
      refine hK _ _ bz ?_
      clear hK K
      refine wpW_branch [6] (by kernel_rfl) (by simp) ?_
      intro w5 hg5 hS5
      replace bj := Blk.gr bj hg5
      replace bz := Blk.gr bz hg5
      replace K2 := KeepsTwo.gr K2 hg5
      replace hbs := Nat.le_trans hbs (Below.size hg5)
      replace o6 := own_below o6 hg5
      replace bn := Blk.gr bn hg5
      refine each_cons ?_ (each_nil)
      refine wpOp_go (by rfl) (Eq.refl _) (by go_simp; done) ?_
      intro K hK
      refine wp_append_at _ (.tmp 106) (.tmp 108) 22 rfl base 83 i0 _ 5 48 Tryz.underlying22 hi iz0 iz1 iz2 rfl (by decide) _ j.fs.length (fcsC j.fs) rfl o6 ⟨gn, 0, none⟩ 1 1 [.string nm, .int .i64 n2, .int .i64 n3, .int .i64 n4, .int .i64 n5] rfl rfl ?hc (by simp [Value.oneCell']) (by unfold maxLen; omega) (by omega) hbs ?_
      case hc =>
        intro j u hj
        rw [Addr.add_lit, Nat.zero_add]
        exact (bn.cell j).trans (by simpa using hj)
      intro u12 wa hown' hgrow hat
      have hob := fun q e => (o6.lt q e).1
      replace bj := bj.grown hgrow (fun e => by have := hob _ e.symm; omega)
      replace bz := bz.grown hgrow (fun e => by have := hob _ e.symm; omega)
      replace K2 := K2.app hgrow hob HBS.out
      replace hbs := Nat.le_trans hbs hgrow.size
      have o9 : wa.ownsRow base 83 5 u12 (j.fs.length + 1) (fcsC (j.fs ++ [(nm, ⟨n2, n3, n4, n5⟩)])) := by rw [fcsC_snoc]; exact hown'
      clear hown' hgrow hat hob
      obtain ⟨A', c', hv, _⟩ := Row.own o9
      subst hv
      clear o6 bn
      try clear j0 j1 j2 j3 jf lj
      try clear o3
      try clear R
      try simp only [Act.put]
      try simp only [List.setIfInBounds_toArray]
      refine hK _ _ bz ?_
      clear hK K
      refine wpW_branch [7] (by kernel_rfl) (by simp) ?_
      intro w6 hg6 hS6
      replace bj := Blk.gr bj hg6
      replace bz := Blk.gr bz hg6
      replace K2 := KeepsTwo.gr K2 hg6
      replace hbs := Nat.le_trans hbs (Below.size hg6)
      replace o9 := own_below o9 hg6
      refine each_cons ?_ (each_nil)
      refine wpOp_go (by rfl) (Eq.refl _) (by go_simp; done) ?_
      intro K hK
      go_simp
      try simp only [Act.put]
      refine hK _ _ bz ?_
      clear hK K
      refine wpW_branch [8] (by kernel_rfl) (by simp) ?_
      intro w7 hg7 hS7
      replace bj := Blk.gr bj hg7
      replace bz := Blk.gr bz hg7
      replace K2 := KeepsTwo.gr K2 hg7
      replace hbs := Nat.le_trans hbs (Below.size hg7)
      try clear j0 j1 j2 j3 jf lj
      obtain ⟨j0, j1, j2, j3, jf⟩ := blk4 bj
      have lj := bj.lt
      replace o9 := own_below o9 hg7
      refine each_cons ?_ (each_nil)
      refine wpOp_go (by rfl) (Eq.refl _) (by go_simp; done) ?_
      intro K hK
      go_simp
      try simp only [Act.put]
      replace bz := bz.far (p := ⟨jb, 3, none⟩) (Blk.ne_ bz bj (by decide)) (.slice A' (j.fs.length + 1) c')
      replace o9 := o9.kept (grown1 w7 jb 3 (.slice A' (j.fs.length + 1) c')) (.inr (own_blk_ne o9 bj (by decide)))
      replace bj := bj.set_ 3 (.slice A' (j.fs.length + 1) c')
      replace K2 := K2.set 3 (.slice A' (j.fs.length + 1) c')
      refine hK _ _ bz ?_
      clear hK K j0 j1 j2 j3 jf lj hbs
      refine wpW_end (by kernel_rfl) ?_
      intro we hg hS
      unfold NQ
      dsimp only
      replace bj := Blk.gr bj hg
      replace o9 := own_below o9 hg
      replace K2 := K2.gr hg
      refine H.out _ _ _ _ _ _ _ _ A' c' we ?_ o9 K2
      unfold joC
      simpa using bj
  · refine wpOp_go (by rfl) (Eq.refl _) (by go_simp; done) ?_
    intro K hK
    go_simp
    try simp only [Act.put]
    refine hK _ _ bz ?_
    clear hK K
    refine wpW_branch [0, 5] (by kernel_rfl) (by simp) ?_
    intro w2 hg2 hS2
    replace bj := Blk.gr bj hg2
    replace bz := Blk.gr bz hg2
    replace K2 := KeepsTwo.gr K2 hg2
    try replace R := R.below hg2 hbs
    skip
    replace hbs := Nat.le_trans hbs (Below.size hg2)
    refine each_cons ?_ (each_cons ?_ (each_nil))
    · refine wpOp_go (by rfl) (Eq.refl _) (by go_simp; done) ?_
      intro K hK
      go_simp
      try simp only [Act.put]
      try (have nne : some gn ≠ (Value.slice (some ⟨w2.heap.size, 0, none⟩) 0 0).ownBlock := fun e => by have h1 := bn.lt; simp [Value.ownBlock] at e; omega)
      have hal : Gr w2 (w2.alloc (.cells #[] 83)) := (Below.refl _ _).alloc (Nat.le_refl _) _
      have o3 : (w2.alloc (.cells #[] 83)).ownsRow base 83 5 (.slice (some ⟨w2.heap.size, 0, none⟩) 0 0) 0 [] := by
        have h := World.ownsRow_made (base := base) (e := 83) (size := 5) w2 #[] 0 hbs (by decide) rfl
        simpa using h
      replace bj := Blk.gr bj hal
      replace bz := Blk.gr bz hal
      replace K2 := KeepsTwo.gr K2 hal
      try replace R := R.below hal hbs
      replace hbs := Nat.le_trans hbs (Below.size hal)
      try replace bn := Blk.gr bn hal
      clear hal
      try clear j0 j1 j2 j3 jf lj
      generalize w2.heap.size = ge at *
      refine hK _ _ bz ?_
      clear hK K
      refine wpW_branch [3, 5] (by kernel_rfl) (by simp) ?_
      intro w3 hg3 hS3
      replace bj := Blk.gr bj hg3
      replace bz := Blk.gr bz hg3
      replace K2 := KeepsTwo.gr K2 hg3
      try replace R := R.below hg3 hbs
      skip
      replace hbs := Nat.le_trans hbs (Below.size hg3)
      replace o3 := own_below o3 hg3
      refine each_cons ?_ (each_cons ?_ (each_nil))
      · refine wpOp_go (by rfl) (Eq.refl _) (by go_simp; done) ?_
        intro K hK
        refine wp_append_at _ (.tmp 103) (.tmp 105) 22 rfl base 83 i0 _ 5 48 Tryz.underlying22 hi iz0 iz1 iz2 rfl (by decide) _ 0 [] rfl o3 ad j.fs.length cf (fcsC j.fs) rfl R.1 (facesC_cells R) (fcsC_one j.fs) (by unfold maxLen; omega) (by omega) hbs ?_
        intro u11 wa hown' hgrow hat
        have hob := fun q e => (o3.lt q e).1
        replace bj := bj.grown hgrow (fun e => by have := hob _ e.symm; omega)
        replace bz := bz.grown hgrow (fun e => by have := hob _ e.symm; omega)
        try replace bn := bn.grown hgrow nne
        replace K2 := K2.app hgrow hob HBS.out
        replace hbs := Nat.le_trans hbs hgrow.size
        have o6 : wa.ownsRow base 83 5 u11 j.fs.length (fcsC j.fs) := by simpa using hown'
        clear hown' hgrow hat hob o3
        try clear j0 j1 j2 j3 jf lj
        obtain ⟨A6, c6, hv6, _⟩ := Row.own o6
        subst hv6
        try simp only [Act.put]
        try simp only [List.setIfInBounds_toArray]
        refine hK _ _ bz ?_
        clear hK K
        refine wpW_branch [5] (by kernel_rfl) (by simp) ?_
        intro w4 hg4 hS4
        replace bj := Blk.gr bj hg4
        replace bz := Blk.gr bz hg4
        replace K2 := KeepsTwo.gr K2 hg4
        replace hbs := Nat.le_trans hbs (Below.size hg4)
        replace o6 := own_below o6 hg4
        refine each_cons ?_ (each_nil)
        refine wpOp_go (by rfl) (Eq.refl _) (by go_simp; done) ?_
        intro K hK
        go_simp
        try simp only [Act.put]
        try (have nne : some w4.heap.size ≠ (Value.slice (some ⟨ge, 0, none⟩) 0 0).ownBlock := own_ne o3 (.inr (Nat.le_refl _)))
        have bn := Blk.new w4 83 #[.string nm, .int .i64 n2, .int .i64 n3, .int .i64 n4, .int .i64 n5]
        have hgn : base ≤ w4.heap.size := hbs
        have hal : Gr w4 (w4.alloc (.cells #[.string nm, .int .i64 n2, .int .i64 n3, .int .i64 n4, .int .i64 n5] 83)) := (Below.refl _ _).alloc (Nat.le_refl _) _
        replace bj := Blk.gr bj hal
        replace bz := Blk.gr bz hal
        replace K2 := KeepsTwo.gr K2 hal
        try replace R := R.below hal hbs
        replace hbs := Nat.le_trans hbs (Below.size hal)
        try replace o3 := own_below o3 hal
        try replace o6 := own_below o6 hal
        clear hal
        try clear j0 j1 j2 j3 jf lj
        generalize w4.heap.size = gn at *
        refine hK _ _ bz ?_
        clear hK K
        refine wpW_branch [6] (by kernel_rfl) (by simp) ?_
        intro w5 hg5 hS5
        replace bj := Blk.gr bj hg5
        replace bz := Blk.gr bz hg5
        replace K2 := KeepsTwo.gr K2 hg5
        replace hbs := Nat.le_trans hbs (Below.size hg5)
        replace o6 := own_below o6 hg5
        replace bn := Blk.gr bn hg5
        refine each_cons ?_ (each_nil)
        refine wpOp_go (by rfl) (Eq.refl _) (by go_simp; done) ?_
        intro K hK
        refine wp_append_at _ (.tmp 106) (.tmp 108) 22 rfl base 83 i0 _ 5 48 Tryz.underlying22 hi iz0 iz1 iz2 rfl (by decide) _ j.fs.length (fcsC j.fs) rfl o6 ⟨gn, 0, none⟩ 1 1 [.string nm, .int .i64 n2, .int .i64 n3, .int .i64 n4, .int .i64 n5] rfl rfl ?hc (by simp [Value.oneCell']) (by unfold maxLen; omega) (by omega) hbs ?_
        case hc =>
          intro j u hj
          rw [Addr.add_lit, Nat.zero_add]
          exact (bn.cell j).trans (by simpa using hj)
        intro u12 wa hown' hgrow hat
        have hob := fun q e => (o6.lt q e).1
        replace bj := bj.grown hgrow (fun e => by have := hob _ e.symm; omega)
        replace bz := bz.grown hgrow (fun e => by have := hob _ e.symm; omega)
        replace K2 := K2.app hgrow hob HBS.out
        replace hbs := Nat.le_trans hbs hgrow.size
        have o9 : wa.ownsRow base 83 5 u12 (j.fs.length + 1) (fcsC (j.fs ++ [(nm, ⟨n2, n3, n4, n5⟩)])) := by rw [fcsC_snoc]; exact hown'
        clear hown' hgrow hat hob
        obtain ⟨A', c', hv, _⟩ := Row.own o9
        subst hv
        clear o6 bn
        try clear j0 j1 j2 j3 jf lj
        try clear o3
        try clear R
        try simp only [Act.put]
        try simp only [List.setIfInBounds_toArray]
        refine hK _ _ bz ?_
        clear hK K
        refine wpW_branch [7] (by kernel_rfl) (by simp) ?_
        intro w6 hg6 hS6
        replace bj := Blk.gr bj hg6
        replace bz := Blk.gr bz hg6
        replace K2 := KeepsTwo.gr K2 hg6
        replace hbs := Nat.le_trans hbs (Below.size hg6)
        replace o9 := own_below o9 hg6
        refine each_cons ?_ (each_nil)
        refine wpOp_go (by rfl) (Eq.refl _) (by go_simp; done) ?_
        intro K hK
        go_simp
        try simp only [Act.put]
        refine hK _ _ bz ?_
        clear hK K
        refine wpW_branch [8] (by kernel_rfl) (by simp) ?_
        intro w7 hg7 hS7
        replace bj := Blk.gr bj hg7
        replace bz := Blk.gr bz hg7
        replace K2 := KeepsTwo.gr K2 hg7
        replace hbs := Nat.le_trans hbs (Below.size hg7)
        try clear j0 j1 j2 j3 jf lj
        obtain ⟨j0, j1, j2, j3, jf⟩ := blk4 bj
        have lj := bj.lt
        replace o9 := own_below o9 hg7
        refine each_cons ?_ (each_nil)
        refine wpOp_go (by rfl) (Eq.refl _) (by go_simp; done) ?_
        intro K hK
        go_simp
        try simp only [Act.put]
        replace bz := bz.far (p := ⟨jb, 3, none⟩) (Blk.ne_ bz bj (by decide)) (.slice A' (j.fs.length + 1) c')
        replace o9 := o9.kept (grown1 w7 jb 3 (.slice A' (j.fs.length + 1) c')) (.inr (own_blk_ne o9 bj (by decide)))
        replace bj := bj.set_ 3 (.slice A' (j.fs.length + 1) c')
        replace K2 := K2.set 3 (.slice A' (j.fs.length + 1) c')
        refine hK _ _ bz ?_
        clear hK K j0 j1 j2 j3 jf lj hbs
        refine wpW_end (by kernel_rfl) ?_
        intro we hg hS
        unfold NQ
        dsimp only
        replace bj := Blk.gr bj hg
        replace o9 := own_below o9 hg
        replace K2 := K2.gr hg
        refine H.out _ _ _ _ _ _ _ _ A' c' we ?_ o9 K2
        unfold joC
        simpa using bj
      · refine wpOp_go (by rfl) (Eq.refl _) (by go_simp; done) ?_
        intro K hK
        go_simp
        try simp only [Act.put]
        try (have nne : some w3.heap.size ≠ (Value.slice (some ⟨ge, 0, none⟩) 0 0).ownBlock := own_ne o3 (.inr (Nat.le_refl _)))
        have bn := Blk.new w3 83 #[.string nm, .int .i64 n2, .int .i64 n3, .int .i64 n4, .int .i64 n5]
        have hgn : base ≤ w3.heap.size := hbs
        have hal : Gr w3 (w3.alloc (.cells #[.string nm, .int .i64 n2, .int .i64 n3, .int .i64 n4, .int .i64 n5] 83)) := (Below.refl _ _).alloc (Nat.le_refl _) _
        replace bj := Blk.gr bj hal
        replace bz := Blk.gr bz hal
        replace K2 := KeepsTwo.gr K2 hal
        try replace R := R.below hal hbs
        replace hbs := Nat.le_trans hbs (Below.size hal)
        try replace o3 := own_below o3 hal
        try replace o6 := own_below o6 hal
        clear hal
        try clear j0 j1 j2 j3 jf lj
        generalize w3.heap.size = gn at *
        refine hK _ _ bz ?_
        clear hK K
        refine wpW_branch [3] (by kernel_rfl) (by simp) ?_
        intro w4 hg4 hS4
        replace bj := Blk.gr bj hg4
        replace bz := Blk.gr bz hg4
        replace K2 := KeepsTwo.gr K2 hg4
        try replace R := R.below hg4 hbs
        skip
        replace hbs := Nat.le_trans hbs (Below.size hg4)
        replace o3 := own_below o3 hg4
        replace bn := Blk.gr bn hg4
        refine each_cons ?_ (each_nil)
        refine wpOp_go (by rfl) (Eq.refl _) (by go_simp; done) ?_
        intro K hK
        refine wp_append_at _ (.tmp 103) (.tmp 105) 22 rfl base 83 i0 _ 5 48 Tryz.underlying22 hi iz0 iz1 iz2 rfl (by decide) _ 0 [] rfl o3 ad j.fs.length cf (fcsC j.fs) rfl R.1 (facesC_cells R) (fcsC_one j.fs) (by unfold maxLen; omega) (by omega) hbs ?_
        intro u11 wa hown' hgrow hat
        have hob := fun q e => (o3.lt q e).1
        replace bj := bj.grown hgrow (fun e => by have := hob _ e.symm; omega)
        replace bz := bz.grown hgrow (fun e => by have := hob _ e.symm; omega)
        try replace bn := bn.grown hgrow nne
        replace K2 := K2.app hgrow hob HBS.out
        replace hbs := Nat.le_trans hbs hgrow.size
        have o6 : wa.ownsRow base 83 5 u11 j.fs.length (fcsC j.fs) := by simpa using hown'
        clear hown' hgrow hat hob o3
        try clear j0 j1 j2 j3 jf lj
        obtain ⟨A6, c6, hv6, _⟩ := Row.own o6
        subst hv6
        try simp only [Act.put]
        try simp only [List.setIfInBounds_toArray]
        refine hK _ _ bz ?_
        clear hK K
        refine wpW_branch [6] (by kernel_rfl) (by simp) ?_
        intro w5 hg5 hS5
        replace bj := Blk.gr bj hg5
        replace bz := Blk.gr bz hg5
        replace K2 := KeepsTwo.gr K2 hg5
        replace hbs := Nat.le_trans hbs (Below.size hg5)
        replace o6 := own_below o6 hg5
        replace bn := Blk.gr bn hg5
        refine each_cons ?_ (each_nil)
        refine wpOp_go (by rfl) (Eq.refl _) (by go_simp; done) ?_
        intro K hK
        refine wp_append_at _ (.tmp 106) (.tmp 108) 22 rfl base 83 i0 _ 5 48 Tryz.underlying22 hi iz0 iz1 iz2 rfl (by decide) _ j.fs.length (fcsC j.fs) rfl o6 ⟨gn, 0, none⟩ 1 1 [.string nm, .int .i64 n2, .int .i64 n3, .int .i64 n4, .int .i64 n5] rfl rfl ?hc (by simp [Value.oneCell']) (by unfold maxLen; omega) (by omega) hbs ?_
        case hc =>
          intro j u hj
          rw [Addr.add_lit, Nat.zero_add]
          exact (bn.cell j).trans (by simpa using hj)
        intro u12 wa hown' hgrow hat
        have hob := fun q e => (o6.lt q e).1
        replace bj := bj.grown hgrow (fun e => by have := hob _ e.symm; omega)
        replace bz := bz.grown hgrow (fun e => by have := hob _ e.symm; omega)
        replace K2 := K2.app hgrow hob HBS.out
        replace hbs := Nat.le_trans hbs hgrow.size
        have o9 : wa.ownsRow base 83 5 u12 (j.fs.length + 1) (fcsC (j.fs ++ [(nm, ⟨n2, n3, n4, n5⟩)])) := by rw [fcsC_snoc]; exact hown'
        clear hown' hgrow hat hob
        obtain ⟨A', c', hv, _⟩ := Row.own o9
        subst hv
        clear o6 bn
        try clear j0 j1 j2 j3 jf lj
        try clear o3
        try clear R
        try simp only [Act.put]
        try simp only [List.setIfInBounds_toArray]
        refine hK _ _ bz ?_
        clear hK K
        refine wpW_branch [7] (by kernel_rfl) (by simp) ?_
        intro w6 hg6 hS6
        replace bj := Blk.gr bj hg6
        replace bz := Blk.gr bz hg6
        replace K2 := KeepsTwo.gr K2 hg6
        replace hbs := Nat.le_trans hbs (Below.size hg6)
        replace o9 := own_below o9 hg6
        refine each_cons ?_ (each_nil)
        refine wpOp_go (by rfl) (Eq.refl _) (by go_simp; done) ?_
        intro K hK
        go_simp
        try simp only [Act.put]
        refine hK _ _ bz ?_
        clear hK K
        refine wpW_branch [8] (by kernel_rfl) (by simp) ?_
        intro w7 hg7 hS7
        replace bj := Blk.gr bj hg7
        replace bz := Blk.gr bz hg7
        replace K2 := KeepsTwo.gr K2 hg7
        replace hbs := Nat.le_trans hbs (Below.size hg7)
        try clear j0 j1 j2 j3 jf lj
        obtain ⟨j0, j1, j2, j3, jf⟩ := blk4 bj
        have lj := bj.lt
        replace o9 := own_below o9 hg7
        refine each_cons ?_ (each_nil)
        refine wpOp_go (by rfl) (Eq.refl _) (by go_simp; done) ?_
        intro K hK
        go_simp
        try simp only [Act.put]
        replace bz := bz.far (p := ⟨jb, 3, none⟩) (Blk.ne_ bz bj (by decide)) (.slice A' (j.fs.length + 1) c')
        replace o9 := o9.kept (grown1 w7 jb 3 (.slice A' (j.fs.length + 1) c')) (.inr (own_blk_ne o9 bj (by decide)))
        replace bj := bj.set_ 3 (.slice A' (j.fs.length + 1) c')
        replace K2 := K2.set 3 (.slice A' (j.fs.length + 1) c')
        refine hK _ _ bz ?_
        clear hK K j0 j1 j2 j3 jf lj hbs
        refine wpW_end (by kernel_rfl) ?_
        intro we hg hS
        unfold NQ
        dsimp only
        replace bj := Blk.gr bj hg
        replace o9 := own_below o9 hg
        replace K2 := K2.gr hg
        refine H.out _ _ _ _ _ _ _ _ A' c' we ?_ o9 K2
        unfold joC
        simpa using bj
    · refine wpOp_go (by rfl) (Eq.refl _) (by go_simp; done) ?_
      intro K hK
      go_simp
      try simp only [Act.put]
      try (have nne : some w2.heap.size ≠ (Value.slice (some ⟨ge, 0, none⟩) 0 0).ownBlock := own_ne o3 (.inr (Nat.le_refl _)))
      have bn := Blk.new w2 83 #[.string nm, .int .i64 n2, .int .i64 n3, .int .i64 n4, .int .i64 n5]
      have hgn : base ≤ w2.heap.size := hbs
      have hal : Gr w2 (w2.alloc (.cells #[.string nm, .int .i64 n2, .int .i64 n3, .int .i64 n4, .int .i64 n5] 83)) := (Below.refl _ _).alloc (Nat.le_refl _) _
      replace bj := Blk.gr bj hal
      replace bz := Blk.gr bz hal
      replace K2 := KeepsTwo.gr K2 hal
      try replace R := R.below hal hbs
      replace hbs := Nat.le_trans hbs (Below.size hal)
      try replace o3 := own_below o3 hal
      try replace o6 := own_below o6 hal
      clear hal
      try clear j0 j1 j2 j3 jf lj
      generalize w2.heap.size = gn at *
      refine hK _ _ bz ?_
      clear hK K
      refine wpW_branch [0] (by kernel_rfl) (by simp) ?_
      intro w3 hg3 hS3
      replace bj := Blk.gr bj hg3
      replace bz := Blk.gr bz hg3
      replace K2 := KeepsTwo.gr K2 hg3
      try replace R := R.below hg3 hbs
      skip
      replace hbs := Nat.le_trans hbs (Below.size hg3)
      replace bn := Blk.gr bn hg3
      refine each_cons ?_ (each_nil)
      refine wpOp_go (by rfl) (Eq.refl _) (by go_simp; done) ?_
      intro K hK
      go_simp
      try simp only [Act.put]
      try (have nne : some gn ≠ (Value.slice (some ⟨w3.heap.size, 0, none⟩) 0 0).ownBlock := fun e => by have h1 := bn.lt; simp [Value.ownBlock] at e; omega)
      have hal : Gr w3 (w3.alloc (.cells #[] 83)) := (Below.refl _ _).alloc (Nat.le_refl _) _
      have o3 : (w3.alloc (.cells #[] 83)).ownsRow base 83 5 (.slice (some ⟨w3.heap.size, 0, none⟩) 0 0) 0 [] := by
        have h := World.ownsRow_made (base := base) (e := 83) (size := 5) w3 #[] 0 hbs (by decide) rfl
        simpa using h
      replace bj := Blk.gr bj hal
      replace bz := Blk.gr bz hal
      replace K2 := KeepsTwo.gr K2 hal
      try replace R := R.below hal hbs
      replace hbs := Nat.le_trans hbs (Below.size hal)
      try replace bn := Blk.gr bn hal
      clear hal
      try clear j0 j1 j2 j3 jf lj
      generalize w3.heap.size = ge at *
      refine hK _ _ bz ?_
      clear hK K
      refine wpW_branch [3] (by kernel_rfl) (by simp) ?_
      intro w4 hg4 hS4
      replace bj := Blk.gr bj hg4
      replace bz := Blk.gr bz hg4
      replace K2 := KeepsTwo.gr K2 hg4
      try replace R := R.below hg4 hbs
      skip
      replace hbs := Nat.le_trans hbs (Below.size hg4)
      replace o3 := own_below o3 hg4
      replace bn := Blk.gr bn hg4
      refine each_cons ?_ (each_nil)
      refine wpOp_go (by rfl) (Eq.refl _) (by go_simp; done) ?_
      intro K hK
      refine wp_append_at _ (.tmp 103) (.tmp 105) 22 rfl base 83 i0 _ 5 48 Tryz.underlying22 hi iz0 iz1 iz2 rfl (by decide) _ 0 [] rfl o3 ad j.fs.length cf (fcsC j.fs) rfl R.1 (facesC_cells R) (fcsC_one j.fs) (by unfold maxLen; omega) (by omega) hbs ?_
      intro u11 wa hown' hgrow hat
      have hob := fun q e => (o3.lt q e).1
      replace bj := bj.grown hgrow (fun e => by have := hob _ e.symm; omega)
      replace bz := bz.grown hgrow (fun e => by have := hob _ e.symm; omega)
      try replace bn := bn.grown hgrow nne
      replace K2 := K2.app hgrow hob HBS.out
      replace hbs := Nat.le_trans hbs hgrow.size
      have o6 : wa.ownsRow base 83 5 u11 j.fs.length (fcsC j.fs) := by simpa using hown'
      clear hown' hgrow hat hob o3
      try clear j0 j1 j2 j3 jf lj
      obtain ⟨A6, c6, hv6, _⟩ := Row.own o6
      subst hv6
      try simp only [Act.put]
      try simp only [List.setIfInBounds_toArray]
      refine hK _ _ bz ?_
      clear hK K
      refine wpW_branch [6] (by kernel_rfl) (by simp) ?_
      intro w5 hg5 hS5
      replace bj := Blk.gr bj hg5
      replace bz := Blk.gr bz hg5
      replace K2 := KeepsTwo.gr K2 hg5
      replace hbs := Nat.le_trans hbs (Below.size hg5)
      replace o6 := own_below o6 hg5
      replace bn := Blk.gr bn hg5
      refine each_cons ?_ (each_nil)
      refine wpOp_go (by rfl) (Eq.refl _) (by go_simp; done) ?_
      intro K hK
      refine wp_append_at _ (.tmp 106) (.tmp 108) 22 rfl base 83 i0 _ 5 48 Tryz.underlying22 hi iz0 iz1 iz2 rfl (by decide) _ j.fs.length (fcsC j.fs) rfl o6 ⟨gn, 0, none⟩ 1 1 [.string nm, .int .i64 n2, .int .i64 n3, .int .i64 n4, .int .i64 n5] rfl rfl ?hc (by simp [Value.oneCell']) (by unfold maxLen; omega) (by omega) hbs ?_
      case hc =>
        intro j u hj
        rw [Addr.add_lit, Nat.zero_add]
        exact (bn.cell j).trans (by simpa using hj)
      intro u12 wa hown' hgrow hat
      have hob := fun q e => (o6.lt q e).1
      replace bj := bj.grown hgrow (fun e => by have := hob _ e.symm; omega)
      replace bz := bz.grown hgrow (fun e => by have := hob _ e.symm; omega)
      replace K2 := K2.app hgrow hob HBS.out
      replace hbs := Nat.le_trans hbs hgrow.size
      have o9 : wa.ownsRow base 83 5 u12 (j.fs.length + 1) (fcsC (j.fs ++ [(nm, ⟨n2, n3, n4, n5⟩)])) := by rw [fcsC_snoc]; exact hown'
      clear hown' hgrow hat hob
      obtain ⟨A', c', hv, _⟩ := Row.own o9
      subst hv
      clear o6 bn
      try clear j0 j1 j2 j3 jf lj
      try clear o3
      try clear R
      try simp only [Act.put]
      try simp only [List.setIfInBounds_toArray]
      refine hK _ _ bz ?_
      clear hK K
      refine wpW_branch [7] (by kernel_rfl) (by simp) ?_
      intro w6 hg6 hS6
      replace bj := Blk.gr bj hg6
      replace bz := Blk.gr bz hg6
      replace K2 := KeepsTwo.gr K2 hg6
      replace hbs := Nat.le_trans hbs (Below.size hg6)
      replace o9 := own_below o9 hg6
      refine each_cons ?_ (each_nil)
      refine wpOp_go (by rfl) (Eq.refl _) (by go_simp; done) ?_
      intro K hK
      go_simp
      try simp only [Act.put]
      refine hK _ _ bz ?_
      clear hK K
      refine wpW_branch [8] (by kernel_rfl) (by simp) ?_
      intro w7 hg7 hS7
      replace bj := Blk.gr bj hg7
      replace bz := Blk.gr bz hg7
      replace K2 := KeepsTwo.gr K2 hg7
      replace hbs := Nat.le_trans hbs (Below.size hg7)
      try clear j0 j1 j2 j3 jf lj
      obtain ⟨j0, j1, j2, j3, jf⟩ := blk4 bj
      have lj := bj.lt
      replace o9 := own_below o9 hg7
      refine each_cons ?_ (each_nil)
      refine wpOp_go (by rfl) (Eq.refl _) (by go_simp; done) ?_
      intro K hK
      go_simp
      try simp only [Act.put]
      replace bz := bz.far (p := ⟨jb, 3, none⟩) (Blk.ne_ bz bj (by decide)) (.slice A' (j.fs.length + 1) c')
      replace o9 := o9.kept (grown1 w7 jb 3 (.slice A' (j.fs.length + 1) c')) (.inr (own_blk_ne o9 bj (by decide)))
      replace bj := bj.set_ 3 (.slice A' (j.fs.length + 1) c')
      replace K2 := K2.set 3 (.slice A' (j.fs.length + 1) c')
      refine hK _ _ bz ?_
      clear hK K j0 j1 j2 j3 jf lj hbs
      refine wpW_end (by kernel_rfl) ?_
      intro we hg hS
      unfold NQ
      dsimp only
      replace bj := Blk.gr bj hg
      replace o9 := own_below o9 hg
      replace K2 := K2.gr hg
      refine H.out _ _ _ _ _ _ _ _ A' c' we ?_ o9 K2
      unfold joC
      simpa using bj
  · refine wpOp_go (by rfl) (Eq.refl _) (by go_simp; done) ?_
    intro K hK
    go_simp
    try simp only [Act.put]
    try (have nne : some w1.heap.size ≠ (Value.slice (some ⟨ge, 0, none⟩) 0 0).ownBlock := own_ne o3 (.inr (Nat.le_refl _)))
    have bn := Blk.new w1 83 #[.string nm, .int .i64 n2, .int .i64 n3, .int .i64 n4, .int .i64 n5]
    have hgn : base ≤ w1.heap.size := hbs
    have hal : Gr w1 (w1.alloc (.cells #[.string nm, .int .i64 n2, .int .i64 n3, .int .i64 n4, .int .i64 n5] 83)) := (Below.refl _ _).alloc (Nat.le_refl _) _
    replace bj := Blk.gr bj hal
    replace bz := Blk.gr bz hal
    replace K2 := KeepsTwo.gr K2 hal
    try replace R := R.below hal hbs
    replace hbs := Nat.le_trans hbs (Below.size hal)
    try replace o3 := own_below o3 hal
    try replace o6 := own_below o6 hal
    clear hal
    try clear j0 j1 j2 j3 jf lj
    generalize w1.heap.size = gn at *
    refine hK _ _ bz ?_
    clear hK K
    refine wpW_branch [0, 2] (by kernel_rfl) (by simp) ?_
    intro w2 hg2 hS2
    replace bj := Blk.gr bj hg2
    replace bz := Blk.gr bz hg2
    replace K2 := KeepsTwo.gr K2 hg2
    try replace R := R.below hg2 hbs
    skip
    replace hbs := Nat.le_trans hbs (Below.size hg2)
    try clear j0 j1 j2 j3 jf lj
    obtain ⟨j0, j1, j2, j3, jf⟩ := blk4 bj
    have lj := bj.lt
    replace bn := Blk.gr bn hg2
    refine each_cons ?_ (each_cons ?_ (each_nil))
    · refine wpOp_go (by rfl) (Eq.refl _) (by go_simp; done) ?_
      intro K hK
      go_simp
      try simp only [Act.put]
      try (have nne : some gn ≠ (Value.slice (some ⟨w2.heap.size, 0, none⟩) 0 0).ownBlock := fun e => by have h1 := bn.lt; simp [Value.ownBlock] at e; omega)
      have hal : Gr w2 (w2.alloc (.cells #[] 83)) := (Below.refl _ _).alloc (Nat.le_refl _) _
      have o3 : (w2.alloc (.cells #[] 83)).ownsRow base 83 5 (.slice (some ⟨w2.heap.size, 0, none⟩) 0 0) 0 [] := by
        have h := World.ownsRow_made (base := base) (e := 83) (size := 5) w2 #[] 0 hbs (by decide) rfl
        simpa using h
      replace bj := Blk.gr bj hal
      replace bz := Blk.gr bz hal
      replace K2 := KeepsTwo.gr K2 hal
      try replace R := R.below hal hbs
      replace hbs := Nat.le_trans hbs (Below.size hal)
      try replace bn := Blk.gr bn hal
      clear hal
      try clear j0 j1 j2 j3 jf lj
      generalize w2.heap.size = ge at *
      refine hK _ _ bz ?_
      clear hK K
      refine wpW_branch [2] (by kernel_rfl) (by simp) ?_
      intro w3 hg3 hS3
      replace bj := Blk.gr bj hg3
      replace bz := Blk.gr bz hg3
      replace K2 := KeepsTwo.gr K2 hg3
      try replace R := R.below hg3 hbs
      skip
      replace hbs := Nat.le_trans hbs (Below.size hg3)
      try clear j0 j1 j2 j3 jf lj
      obtain ⟨j0, j1, j2, j3, jf⟩ := blk4 bj
      have lj := bj.lt
      replace o3 := own_below o3 hg3
      replace bn := Blk.gr bn hg3
      refine each_cons ?_ (each_nil)
      refine wpOp_go (by rfl) (Eq.refl _) (by go_simp; done) ?_
      intro K hK
      go_simp
      try simp only [Act.put]
      refine hK _ _ bz ?_
      clear hK K
      refine wpW_branch [3] (by kernel_rfl) (by simp) ?_
      intro w4 hg4 hS4
      replace bj := Blk.gr bj hg4
      replace bz := Blk.gr bz hg4
      replace K2 := KeepsTwo.gr K2 hg4
      try replace R := R.below hg4 hbs
      skip
      replace hbs := Nat.le_trans hbs (Below.size hg4)
      replace o3 := own_below o3 hg4
      replace bn := Blk.gr bn hg4
      refine each_cons ?_ (each_nil)
      refine wpOp_go (by rfl) (Eq.refl _) (by go_simp; done) ?_
      intro K hK
      refine wp_append_at _ (.tmp 103) (.tmp 105) 22 rfl base 83 i0 _ 5 48 Tryz.underlying22 hi iz0 iz1 iz2 rfl (by decide) _ 0 [] rfl o3 ad j.fs.length cf (fcsC j.fs) rfl R.1 (facesC_cells R) (fcsC_one j.fs) (by unfold maxLen; omega) (by omega) hbs ?_
      intro u11 wa hown' hgrow hat
      have hob := fun q e => (o3.lt q e).1
      replace bj := bj.grown hgrow (fun e => by have := hob _ e.symm; omega)
      replace bz := bz.grown hgrow (fun e => by have := hob _ e.symm; omega)
      try replace bn := bn.grown hgrow nne
      replace K2 := K2.app hgrow hob HBS.out
      replace hbs := Nat.le_trans hbs hgrow.size
      have o6 : wa.ownsRow base 83 5 u11 j.fs.length (fcsC j.fs) := by simpa using hown'
      clear hown' hgrow hat hob o3
      try clear j0 j1 j2 j3 jf lj
      obtain ⟨A6, c6, hv6, _⟩ := Row.own o6
      subst hv6
      try simp only [Act.put]
      try simp only [List.setIfInBounds_toArray]
      refine hK _ _ bz ?_
      clear hK K
      refine wpW_branch [6] (by kernel_rfl) (by simp) ?_
      intro w5 hg5 hS5
      replace bj := Blk.gr bj hg5
      replace bz := Blk.gr bz hg5
      replace K2 := KeepsTwo.gr K2 hg5
      replace hbs := Nat.le_trans hbs (Below.size hg5)
      replace o6 := own_below o6 hg5
      replace bn := Blk.gr bn hg5
      refine each_cons ?_ (each_nil)
      refine wpOp_go (by rfl) (Eq.refl _) (by go_simp; done) ?_
      intro K hK
      refine wp_append_at _ (.tmp 106) (.tmp 108) 22 rfl base 83 i0 _ 5 48 Tryz.underlying22 hi iz0 iz1 iz2 rfl (by decide) _ j.fs.length (fcsC j.fs) rfl o6 ⟨gn, 0, none⟩ 1 1 [.string nm, .int .i64 n2, .int .i64 n3, .int .i64 n4, .int .i64 n5] rfl rfl ?hc (by simp [Value.oneCell']) (by unfold maxLen; omega) (by omega) hbs ?_
      case hc =>
        intro j u hj
        rw [Addr.add_lit, Nat.zero_add]
        exact (bn.cell j).trans (by simpa using hj)
      intro u12 wa hown' hgrow hat
      have hob := fun q e => (o6.lt q e).1
      replace bj := bj.grown hgrow (fun e => by have := hob _ e.symm; omega)
      replace bz := bz.grown hgrow (fun e => by have := hob _ e.symm; omega)
      replace K2 := K2.app hgrow hob HBS.out
      replace hbs := Nat.le_trans hbs hgrow.size
      have o9 : wa.ownsRow base 83 5 u12 (j.fs.length + 1) (fcsC (j.fs ++ [(nm, ⟨n2, n3, n4, n5⟩)])) := by rw [fcsC_snoc]; exact hown'
      clear hown' hgrow hat hob
      obtain ⟨A', c', hv, _⟩ := Row.own o9
      subst hv
      clear o6 bn
      try clear j0 j1 j2 j3 jf lj
      try clear o3
      try clear R
      try simp only [Act.put]
      try simp only [List.setIfInBounds_toArray]
      refine hK _ _ bz ?_
      clear hK K
      refine wpW_branch [7] (by kernel_rfl) (by simp) ?_
      intro w6 hg6 hS6
      replace bj := Blk.gr bj hg6
      replace bz := Blk.gr bz hg6
      replace K2 := KeepsTwo.gr K2 hg6
      replace hbs := Nat.le_trans hbs (Below.size hg6)
      replace o9 := own_below o9 hg6
      refine each_cons ?_ (each_nil)
      refine wpOp_go (by rfl) (Eq.refl _) (by go_simp; done) ?_
      intro K hK
      go_simp
      try simp only [Act.put]
      refine hK _ _ bz ?_
      clear hK K
      refine wpW_branch [8] (by kernel_rfl) (by simp) ?_
      intro w7 hg7 hS7
      replace bj := Blk.gr bj hg7
      replace bz := Blk.gr bz hg7
      replace K2 := KeepsTwo.gr K2 hg7
      replace hbs := Nat.le_trans hbs (Below.size hg7)
      try clear j0 j1 j2 j3 jf lj
      obtain ⟨j0, j1, j2, j3, jf⟩ := blk4 bj
      have lj := bj.lt
      replace o9 := own_below o9 hg7
      refine each_cons ?_ (each_nil)
      refine wpOp_go (by rfl) (Eq.refl _) (by go_simp; done) ?_
      intro K hK
      go_simp
      try simp only [Act.put]
      replace bz := bz.far (p := ⟨jb, 3, none⟩) (Blk.ne_ bz bj (by decide)) (.slice A' (j.fs.length + 1) c')
      replace o9 := o9.kept (grown1 w7 jb 3 (.slice A' (j.fs.length + 1) c')) (.inr (own_blk_ne o9 bj (by decide)))
      replace bj := bj.set_ 3 (.slice A' (j.fs.length + 1) c')
      replace K2 := K2.set 3 (.slice A' (j.fs.length + 1) c')
      refine hK _ _ bz ?_
      clear hK K j0 j1 j2 j3 jf lj hbs
      refine wpW_end (by kernel_rfl) ?_
      intro we hg hS
      unfold NQ
      dsimp only
      replace bj := Blk.gr bj hg
      replace o9 := own_below o9 hg
      replace K2 := K2.gr hg
      refine H.out _ _ _ _ _ _ _ _ A' c' we ?_ o9 K2
      unfold joC
      simpa using bj
    · refine wpOp_go (by rfl) (Eq.refl _) (by go_simp; done) ?_
      intro K hK
      go_simp
      try simp only [Act.put]
      refine hK _ _ bz ?_
      clear hK K
      refine wpW_branch [0] (by kernel_rfl) (by simp) ?_
      intro w3 hg3 hS3
      replace bj := Blk.gr bj hg3
      replace bz := Blk.gr bz hg3
      replace K2 := KeepsTwo.gr K2 hg3
      try replace R := R.below hg3 hbs
      skip
      replace hbs := Nat.le_trans hbs (Below.size hg3)
      replace bn := Blk.gr bn hg3
      refine each_cons ?_ (each_nil)
      refine wpOp_go (by rfl) (Eq.refl _) (by go_simp; done) ?_
      intro K hK
      go_simp
      try simp only [Act.put]
      try (have nne : some gn ≠ (Value.slice (some ⟨w3.heap.size, 0, none⟩) 0 0).ownBlock := fun e => by have h1 := bn.lt; simp [Value.ownBlock] at e; omega)
      have hal : Gr w3 (w3.alloc (.cells #[] 83)) := (Below.refl _ _).alloc (Nat.le_refl _) _
      have o3 : (w3.alloc (.cells #[] 83)).ownsRow base 83 5 (.slice (some ⟨w3.heap.size, 0, none⟩) 0 0) 0 [] := by
        have h := World.ownsRow_made (base := base) (e := 83) (size := 5) w3 #[] 0 hbs (by decide) rfl
        simpa using h
      replace bj := Blk.gr bj hal
      replace bz := Blk.gr bz hal
      replace K2 := KeepsTwo.gr K2 hal
      try replace R := R.below hal hbs
      replace hbs := Nat.le_trans hbs (Below.size hal)
      try replace bn := Blk.gr bn hal
      clear hal
      try clear j0 j1 j2 j3 jf lj
      generalize w3.heap.size = ge at *
      refine hK _ _ bz ?_
      clear hK K
      refine wpW_branch [3] (by kernel_rfl) (by simp) ?_
      intro w4 hg4 hS4
      replace bj := Blk.gr bj hg4
      replace bz := Blk.gr bz hg4
      replace K2 := KeepsTwo.gr K2 hg4
      try replace R := R.below hg4 hbs
      skip
      replace hbs := Nat.le_trans hbs (Below.size hg4)
      replace o3 := own_below o3 hg4
      replace bn := Blk.gr bn hg4
      refine each_cons ?_ (each_nil)
      refine wpOp_go (by rfl) (Eq.refl _) (by go_simp; done) ?_
      intro K hK
      refine wp_append_at _ (.tmp 103) (.tmp 105) 22 rfl base 83 i0 _ 5 48 Tryz.underlying22 hi iz0 iz1 iz2 rfl (by decide) _ 0 [] rfl o3 ad j.fs.length cf (fcsC j.fs) rfl R.1 (facesC_cells R) (fcsC_one j.fs) (by unfold maxLen; omega) (by omega) hbs ?_
      intro u11 wa hown' hgrow hat
      have hob := fun q e => (o3.lt q e).1
      replace bj := bj.grown hgrow (fun e => by have := hob _ e.symm; omega)
      replace bz := bz.grown hgrow (fun e => by have := hob _ e.symm; omega)
      try replace bn := bn.grown hgrow nne
      replace K2 := K2.app hgrow hob HBS.out
      replace hbs := Nat.le_trans hbs hgrow.size
      have o6 : wa.ownsRow base 83 5 u11 j.fs.length (fcsC j.fs) := by simpa using hown'
      clear hown' hgrow hat hob o3
      try clear j0 j1 j2 j3 jf lj
      obtain ⟨A6, c6, hv6, _⟩ := Row.own o6
      subst hv6
      try simp only [Act.put]
      try simp only [List.setIfInBounds_toArray]
      refine hK _ _ bz ?_
      clear hK K
      refine wpW_branch [6] (by kernel_rfl) (by simp) ?_
      intro w5 hg5 hS5
      replace bj := Blk.gr bj hg5
      replace bz := Blk.gr bz hg5
      replace K2 := KeepsTwo.gr K2 hg5
      replace hbs := Nat.le_trans hbs (Below.size hg5)
      replace o6 := own_below o6 hg5
      replace bn := Blk.gr bn hg5
      refine each_cons ?_ (each_nil)
      refine wpOp_go (by rfl) (Eq.refl _) (by go_simp; done) ?_
      intro K hK
      refine wp_append_at _ (.tmp 106) (.tmp 108) 22 rfl base 83 i0 _ 5 48 Tryz.underlying22 hi iz0 iz1 iz2 rfl (by decide) _ j.fs.length (fcsC j.fs) rfl o6 ⟨gn, 0, none⟩ 1 1 [.string nm, .int .i64 n2, .int .i64 n3, .int .i64 n4, .int .i64 n5] rfl rfl ?hc (by simp [Value.oneCell']) (by unfold maxLen; omega) (by omega) hbs ?_
      case hc =>
        intro j u hj
        rw [Addr.add_lit, Nat.zero_add]
        exact (bn.cell j).trans (by simpa using hj)
      intro u12 wa hown' hgrow hat
      have hob := fun q e => (o6.lt q e).1
      replace bj := bj.grown hgrow (fun e => by have := hob _ e.symm; omega)
      replace bz := bz.grown hgrow (fun e => by have := hob _ e.symm; omega)
      replace K2 := K2.app hgrow hob HBS.out
      replace hbs := Nat.le_trans hbs hgrow.size
      have o9 : wa.ownsRow base 83 5 u12 (j.fs.length + 1) (fcsC (j.fs ++ [(nm, ⟨n2, n3, n4, n5⟩)])) := by rw [fcsC_snoc]; exact hown'
      clear hown' hgrow hat hob
      obtain ⟨A', c', hv, _⟩ := Row.own o9
      subst hv
      clear o6 bn
      try clear j0 j1 j2 j3 jf lj
      try clear o3
      try clear R
      try simp only [Act.put]
      try simp only [List.setIfInBounds_toArray]
      refine hK _ _ bz ?_
      clear hK K
      refine wpW_branch [7] (by kernel_rfl) (by simp) ?_
      intro w6 hg6 hS6
      replace bj := Blk.gr bj hg6
      replace bz := Blk.gr bz hg6
      replace K2 := KeepsTwo.gr K2 hg6
      replace hbs := Nat.le_trans hbs (Below.size hg6)
      replace o9 := own_below o9 hg6
      refine each_cons ?_ (each_nil)
      refine wpOp_go (by rfl) (Eq.refl _) (by go_simp; done) ?_
      intro K hK
      go_simp
      try simp only [Act.put]
      refine hK _ _ bz ?_
      clear hK K
      refine wpW_branch [8] (by kernel_rfl) (by simp) ?_
      intro w7 hg7 hS7
      replace bj := Blk.gr bj hg7
      replace bz := Blk.gr bz hg7
      replace K2 := KeepsTwo.gr K2 hg7
      replace hbs := Nat.le_trans hbs (Below.size hg7)
      try clear j0 j1 j2 j3 jf lj
      obtain ⟨j0, j1, j2, j3, jf⟩ := blk4 bj
      have lj := bj.lt
      replace o9 := own_below o9 hg7
      refine each_cons ?_ (each_nil)
      refine wpOp_go (by rfl) (Eq.refl _) (by go_simp; done) ?_
      intro K hK
      go_simp
      try simp only [Act.put]
      replace bz := bz.far (p := ⟨jb, 3, none⟩) (Blk.ne_ bz bj (by decide)) (.slice A' (j.fs.length + 1) c')
      replace o9 := o9.kept (grown1 w7 jb 3 (.slice A' (j.fs.length + 1) c')) (.inr (own_blk_ne o9 bj (by decide)))
      replace bj := bj.set_ 3 (.slice A' (j.fs.length + 1) c')
      replace K2 := K2.set 3 (.slice A' (j.fs.length + 1) c')
      refine hK _ _ bz ?_
      clear hK K j0 j1 j2 j3 jf lj hbs
      refine wpW_end (by kernel_rfl) ?_
      intro we hg hS
      unfold NQ
      dsimp only
      replace bj := Blk.gr bj hg
      replace o9 := own_below o9 hg
      replace K2 := K2.gr hg
      refine H.out _ _ _ _ _ _ _ _ A' c' we ?_ o9 K2
      unfold joC
      simpa using bj
set_option maxRecDepth 100000 in
set_option maxHeartbeats 8000000 in
theorem faceReg24_none {W : World} {jb gz base : Nat} {jn : ByteArray} {th zo : Int} {nm : ByteArray} {n2 n3 n4 n5 : Int}  (bj : Blk W jb 24 #[.string jn, .int .i64 th, .int .i64 zo, .slice none 0 0]) (bz : Blk W gz 83 #[.string nm, .int .i64 n2, .int .i64 n3, .int .i64 n4, .int .i64 n5])
    (hjb : jb < base) (hgz : gz < base) (hbase : W.heap.size = base) (_hlen : 0 ≤ 12) {t0 t1 t3 t4 t5 t6 t7 t8 t9 t11 t12 t13 t14 t15 t16 t17 t18 t19 t20 t21 t22 t23 t24 t25 t26 t27 t28 t29 t30 t31 t32 t33 t34 t35 t36 t37 t38 t39 t40 t41 t42 t43 t44 t45 t46 t47 t48 t49 t50 t51 t52 t53 t54 t55 t56 t57 t58 t59 t60 t61 t62 t63 t64 t65 t66 t67 t68 t69 t70 t71 t72 t73 t74 t75 t76 t77 t78 t79 t80 t81 t82 t83 t84 t85 t86 t87 t88 t89 t90 t91 t92 t93 t94 t95 t96 t97 t98 t99 t100 t101 t102 t103 t104 t105 t106 t107 t108 t109 t110 t111 : Value} {ds : List Deferred} (Q : Exit → Act → World → Prop)
    (h : ∀ (t103 t104 t105 t106 t107 t108 t109 t110 : Value) (A' : Option Addr) (c' : Nat) (w' : World), Blk w' jb 24 (joC (⟨jn, th, zo, [(nm, ⟨n2, n3, n4, n5⟩)]⟩ : Jo) A' c') → w'.ownsRow base 83 5 (.slice A' 1 c') 1 (fcsC ([(nm, ⟨n2, n3, n4, n5⟩)])) →
      KeepsTwo jb none W w' → Q .normal ⟨#[t0, t1, .pointer (some ⟨jb, 0, none⟩), t3, t4, t5, t6, t7, t8, t9, .pointer (some ⟨gz, 0, none⟩), t11, t12, t13, t14, t15, t16, t17, t18, t19, t20, t21, t22, t23, t24, t25, t26, t27, t28, t29, t30, t31, t32, t33, t34, t35, t36, t37, t38, t39, t40, t41, t42, t43, t44, t45, t46, t47, t48, t49, t50, t51, t52, t53, t54, t55, t56, t57, t58, t59, t60, t61, t62, t63, t64, t65, t66, t67, t68, t69, t70, t71, t72, t73, t74, t75, t76, t77, t78, t79, t80, t81, t82, t83, t84, t85, t86, t87, t88, t89, t90, t91, t92, t93, t94, t95, t96, t97, t98, t99, t100, t101, t102, t103, t104, t105, t106, t107, t108, t109, t110, t111], ds⟩ w') :
    (regOf Tryz.f46 24).wp Tryz.prog Q ⟨#[t0, t1, .pointer (some ⟨jb, 0, none⟩), t3, t4, t5, t6, t7, t8, t9, .pointer (some ⟨gz, 0, none⟩), t11, t12, t13, t14, t15, t16, t17, t18, t19, t20, t21, t22, t23, t24, t25, t26, t27, t28, t29, t30, t31, t32, t33, t34, t35, t36, t37, t38, t39, t40, t41, t42, t43, t44, t45, t46, t47, t48, t49, t50, t51, t52, t53, t54, t55, t56, t57, t58, t59, t60, t61, t62, t63, t64, t65, t66, t67, t68, t69, t70, t71, t72, t73, t74, t75, t76, t77, t78, t79, t80, t81, t82, t83, t84, t85, t86, t87, t88, t89, t90, t91, t92, t93, t94, t95, t96, t97, t98, t99, t100, t101, t102, t103, t104, t105, t106, t107, t108, t109, t110, t111], ds⟩ W := by
  have H := Lib.hid h; clear h
  obtain ⟨i0, hi, iz0, iz1, iz2⟩ := info_parts infoFace
  have K2 : KeepsTwo jb none W W.drew := ⟨⟨rfl, rfl, rfl⟩, Nat.le_refl _, fun _ _ _ _ => rfl⟩
  replace bj := bj.drew
  replace bz := bz.drew
  have hbs : base ≤ W.drew.heap.size := Nat.le_of_eq hbase.symm
  have hwb : ∀ g, g < W.heap.size → g < base := fun g hg => by omega
  have HBS := Lib.hid hbase
  clear hbase hwb
  conv in (regOf _ _) => whnf
  refine wp_region_w (fun w' => Blk w' gz 83 #[.string nm, .int .i64 n2, .int .i64 n3, .int .i64 n4, .int .i64 n5]) (by kernel_rfl) (bz) ?_
  refine wpW_det (t' := ?ct1R2) 1 (by rfl) (by kernel_rfl) (NQ_free _) (by kernel_rfl) ?cw1R2 ?ch1R2 ?ca1R2 (Eq.refl _) ?cH1R2
  case cw1R2 => (go_simp; done)
  case ch1R2 =>
    intro ds w' hS K hK
    obtain ⟨z0, z1, z2, z3, z4, zf⟩ := blk5 hS
    have lz := Blk.lt hS
    go_simp
    try go_bits
    exact hK _ hS (Gr.refl _)
  case ca1R2 => (first | (simp [Act.put]; done) | (simp [Act.put, *]; done))
  try dsimp only
  refine wpW_det (t' := ?ct4R2) 4 (by rfl) (by kernel_rfl) (NQ_free _) (by kernel_rfl) ?cw4R2 ?ch4R2 ?ca4R2 (Eq.refl _) ?cH4R2
  case cw4R2 => (go_simp; done)
  case ch4R2 =>
    intro ds w' hS K hK
    obtain ⟨z0, z1, z2, z3, z4, zf⟩ := blk5 hS
    have lz := Blk.lt hS
    go_simp
    try go_bits
    exact hK _ hS (Gr.refl _)
  case ca4R2 => (first | (simp [Act.put]; done) | (simp [Act.put, *]; done))
  try dsimp only
  refine wpW_branch [0, 2, 5] (by kernel_rfl) (by simp) ?_
  intro w1 hg1 hS1
  replace bj := Blk.gr bj hg1
  replace bz := Blk.gr bz hg1
  replace K2 := KeepsTwo.gr K2 hg1
  skip
  replace hbs := Nat.le_trans hbs (Below.size hg1)
  try clear j0 j1 j2 j3 jf lj
  obtain ⟨j0, j1, j2, j3, jf⟩ := blk4 bj
  have lj := bj.lt
  refine each_cons ?_ (each_cons ?_ (each_cons ?_ (each_nil)))
  · refine wpOp_go (by rfl) (Eq.refl _) (by go_simp; done) ?_
    intro K hK
    go_simp
    try simp only [Act.put]
    try (have nne : some gn ≠ (Value.slice (some ⟨w1.heap.size, 0, none⟩) 0 0).ownBlock := fun e => by have h1 := bn.lt; simp [Value.ownBlock] at e; omega)
    have hal : Gr w1 (w1.alloc (.cells #[] 83)) := (Below.refl _ _).alloc (Nat.le_refl _) _
    have o3 : (w1.alloc (.cells #[] 83)).ownsRow base 83 5 (.slice (some ⟨w1.heap.size, 0, none⟩) 0 0) 0 [] := by
      have h := World.ownsRow_made (base := base) (e := 83) (size := 5) w1 #[] 0 hbs (by decide) rfl
      simpa using h
    replace bj := Blk.gr bj hal
    replace bz := Blk.gr bz hal
    replace K2 := KeepsTwo.gr K2 hal
    replace hbs := Nat.le_trans hbs (Below.size hal)
    try replace bn := Blk.gr bn hal
    clear hal
    try clear j0 j1 j2 j3 jf lj
    generalize w1.heap.size = ge at *
    refine hK _ _ bz ?_
    clear hK K
    refine wpW_branch [2, 5] (by kernel_rfl) (by simp) ?_
    intro w2 hg2 hS2
    replace bj := Blk.gr bj hg2
    replace bz := Blk.gr bz hg2
    replace K2 := KeepsTwo.gr K2 hg2
    skip
    replace hbs := Nat.le_trans hbs (Below.size hg2)
    try clear j0 j1 j2 j3 jf lj
    obtain ⟨j0, j1, j2, j3, jf⟩ := blk4 bj
    have lj := bj.lt
    replace o3 := own_below o3 hg2
    refine each_cons ?_ (each_cons ?_ (each_nil))
    · refine wpOp_go (by rfl) (Eq.refl _) (by go_simp; done) ?_
      intro K hK
      go_simp
      try simp only [Act.put]
      refine hK _ _ bz ?_
      clear hK K
      refine wpW_branch [3, 5] (by kernel_rfl) (by simp) ?_
      intro w3 hg3 hS3
      replace bj := Blk.gr bj hg3
      replace bz := Blk.gr bz hg3
      replace K2 := KeepsTwo.gr K2 hg3
      skip
      replace hbs := Nat.le_trans hbs (Below.size hg3)
      replace o3 := own_below o3 hg3
      refine each_cons ?_ (each_cons ?_ (each_nil))
      · refine wpOp_go (by rfl) (Eq.refl _) (by go_simp; done) ?_
        intro K hK
        refine wp_append_none _ (.tmp 103) (.tmp 105) 22 rfl base 83 i0 5 Tryz.underlying22 hi _ 0 [] rfl o3 rfl ?_
        have o6 := o3
        clear o3
        try simp only [Act.put]
        try simp only [List.setIfInBounds_toArray]
        refine hK _ _ bz ?_
        clear hK K
        refine wpW_branch [5] (by kernel_rfl) (by simp) ?_
        intro w4 hg4 hS4
        replace bj := Blk.gr bj hg4
        replace bz := Blk.gr bz hg4
        replace K2 := KeepsTwo.gr K2 hg4
        replace hbs := Nat.le_trans hbs (Below.size hg4)
        replace o6 := own_below o6 hg4
        refine each_cons ?_ (each_nil)
        refine wpOp_go (by rfl) (Eq.refl _) (by go_simp; done) ?_
        intro K hK
        go_simp
        try simp only [Act.put]
        try (have nne : some w4.heap.size ≠ (Value.slice (some ⟨ge, 0, none⟩) 0 0).ownBlock := own_ne o3 (.inr (Nat.le_refl _)))
        have bn := Blk.new w4 83 #[.string nm, .int .i64 n2, .int .i64 n3, .int .i64 n4, .int .i64 n5]
        have hgn : base ≤ w4.heap.size := hbs
        have hal : Gr w4 (w4.alloc (.cells #[.string nm, .int .i64 n2, .int .i64 n3, .int .i64 n4, .int .i64 n5] 83)) := (Below.refl _ _).alloc (Nat.le_refl _) _
        replace bj := Blk.gr bj hal
        replace bz := Blk.gr bz hal
        replace K2 := KeepsTwo.gr K2 hal
        replace hbs := Nat.le_trans hbs (Below.size hal)
        try replace o3 := own_below o3 hal
        try replace o6 := own_below o6 hal
        clear hal
        try clear j0 j1 j2 j3 jf lj
        generalize w4.heap.size = gn at *
        refine hK _ _ bz ?_
        clear hK K
        refine wpW_branch [6] (by kernel_rfl) (by simp) ?_
        intro w5 hg5 hS5
        replace bj := Blk.gr bj hg5
        replace bz := Blk.gr bz hg5
        replace K2 := KeepsTwo.gr K2 hg5
        replace hbs := Nat.le_trans hbs (Below.size hg5)
        replace o6 := own_below o6 hg5
        replace bn := Blk.gr bn hg5
        refine each_cons ?_ (each_nil)
        refine wpOp_go (by rfl) (Eq.refl _) (by go_simp; done) ?_
        intro K hK
        refine wp_append_at _ (.tmp 106) (.tmp 108) 22 rfl base 83 i0 _ 5 48 Tryz.underlying22 hi iz0 iz1 iz2 rfl (by decide) _ 0 [] rfl o6 ⟨gn, 0, none⟩ 1 1 [.string nm, .int .i64 n2, .int .i64 n3, .int .i64 n4, .int .i64 n5] rfl rfl ?hc (by simp [Value.oneCell']) (by unfold maxLen; omega) (by omega) hbs ?_
        case hc =>
          intro j u hj
          rw [Addr.add_lit, Nat.zero_add]
          exact (bn.cell j).trans (by simpa using hj)
        intro u12 wa hown' hgrow hat
        have hob := fun q e => (o6.lt q e).1
        replace bj := bj.grown hgrow (fun e => by have := hob _ e.symm; omega)
        replace bz := bz.grown hgrow (fun e => by have := hob _ e.symm; omega)
        replace K2 := K2.app hgrow hob HBS.out
        replace hbs := Nat.le_trans hbs hgrow.size
        have o9 : wa.ownsRow base 83 5 u12 1 (fcsC ([(nm, ⟨n2, n3, n4, n5⟩)])) := by simpa [fcsC] using hown'
        clear hown' hgrow hat hob
        obtain ⟨A', c', hv, _⟩ := Row.own o9
        subst hv
        clear o6 bn
        try clear j0 j1 j2 j3 jf lj
        try clear o3
        try clear R
        try simp only [Act.put]
        try simp only [List.setIfInBounds_toArray]
        refine hK _ _ bz ?_
        clear hK K
        refine wpW_branch [7] (by kernel_rfl) (by simp) ?_
        intro w6 hg6 hS6
        replace bj := Blk.gr bj hg6
        replace bz := Blk.gr bz hg6
        replace K2 := KeepsTwo.gr K2 hg6
        replace hbs := Nat.le_trans hbs (Below.size hg6)
        replace o9 := own_below o9 hg6
        refine each_cons ?_ (each_nil)
        refine wpOp_go (by rfl) (Eq.refl _) (by go_simp; done) ?_
        intro K hK
        go_simp
        try simp only [Act.put]
        refine hK _ _ bz ?_
        clear hK K
        refine wpW_branch [8] (by kernel_rfl) (by simp) ?_
        intro w7 hg7 hS7
        replace bj := Blk.gr bj hg7
        replace bz := Blk.gr bz hg7
        replace K2 := KeepsTwo.gr K2 hg7
        replace hbs := Nat.le_trans hbs (Below.size hg7)
        try clear j0 j1 j2 j3 jf lj
        obtain ⟨j0, j1, j2, j3, jf⟩ := blk4 bj
        have lj := bj.lt
        replace o9 := own_below o9 hg7
        refine each_cons ?_ (each_nil)
        refine wpOp_go (by rfl) (Eq.refl _) (by go_simp; done) ?_
        intro K hK
        go_simp
        try simp only [Act.put]
        replace bz := bz.far (p := ⟨jb, 3, none⟩) (Blk.ne_ bz bj (by decide)) (.slice A' 1 c')
        replace o9 := o9.kept (grown1 w7 jb 3 (.slice A' 1 c')) (.inr (own_blk_ne o9 bj (by decide)))
        replace bj := bj.set_ 3 (.slice A' 1 c')
        replace K2 := K2.set 3 (.slice A' 1 c')
        refine hK _ _ bz ?_
        clear hK K j0 j1 j2 j3 jf lj hbs
        refine wpW_end (by kernel_rfl) ?_
        intro we hg hS
        unfold NQ
        dsimp only
        replace bj := Blk.gr bj hg
        replace o9 := own_below o9 hg
        replace K2 := K2.gr hg
        refine H.out _ _ _ _ _ _ _ _ A' c' we ?_ o9 K2
        unfold joC
        simpa using bj
      · refine wpOp_go (by rfl) (Eq.refl _) (by go_simp; done) ?_
        intro K hK
        go_simp
        try simp only [Act.put]
        try (have nne : some w3.heap.size ≠ (Value.slice (some ⟨ge, 0, none⟩) 0 0).ownBlock := own_ne o3 (.inr (Nat.le_refl _)))
        have bn := Blk.new w3 83 #[.string nm, .int .i64 n2, .int .i64 n3, .int .i64 n4, .int .i64 n5]
        have hgn : base ≤ w3.heap.size := hbs
        have hal : Gr w3 (w3.alloc (.cells #[.string nm, .int .i64 n2, .int .i64 n3, .int .i64 n4, .int .i64 n5] 83)) := (Below.refl _ _).alloc (Nat.le_refl _) _
        replace bj := Blk.gr bj hal
        replace bz := Blk.gr bz hal
        replace K2 := KeepsTwo.gr K2 hal
        replace hbs := Nat.le_trans hbs (Below.size hal)
        try replace o3 := own_below o3 hal
        try replace o6 := own_below o6 hal
        clear hal
        try clear j0 j1 j2 j3 jf lj
        generalize w3.heap.size = gn at *
        refine hK _ _ bz ?_
        clear hK K
        refine wpW_branch [3] (by kernel_rfl) (by simp) ?_
        intro w4 hg4 hS4
        replace bj := Blk.gr bj hg4
        replace bz := Blk.gr bz hg4
        replace K2 := KeepsTwo.gr K2 hg4
        skip
        replace hbs := Nat.le_trans hbs (Below.size hg4)
        replace o3 := own_below o3 hg4
        replace bn := Blk.gr bn hg4
        refine each_cons ?_ (each_nil)
        refine wpOp_go (by rfl) (Eq.refl _) (by go_simp; done) ?_
        intro K hK
        refine wp_append_none _ (.tmp 103) (.tmp 105) 22 rfl base 83 i0 5 Tryz.underlying22 hi _ 0 [] rfl o3 rfl ?_
        have o6 := o3
        clear o3
        try simp only [Act.put]
        try simp only [List.setIfInBounds_toArray]
        refine hK _ _ bz ?_
        clear hK K
        refine wpW_branch [6] (by kernel_rfl) (by simp) ?_
        intro w5 hg5 hS5
        replace bj := Blk.gr bj hg5
        replace bz := Blk.gr bz hg5
        replace K2 := KeepsTwo.gr K2 hg5
        replace hbs := Nat.le_trans hbs (Below.size hg5)
        replace o6 := own_below o6 hg5
        replace bn := Blk.gr bn hg5
        refine each_cons ?_ (each_nil)
        refine wpOp_go (by rfl) (Eq.refl _) (by go_simp; done) ?_
        intro K hK
        refine wp_append_at _ (.tmp 106) (.tmp 108) 22 rfl base 83 i0 _ 5 48 Tryz.underlying22 hi iz0 iz1 iz2 rfl (by decide) _ 0 [] rfl o6 ⟨gn, 0, none⟩ 1 1 [.string nm, .int .i64 n2, .int .i64 n3, .int .i64 n4, .int .i64 n5] rfl rfl ?hc (by simp [Value.oneCell']) (by unfold maxLen; omega) (by omega) hbs ?_
        case hc =>
          intro j u hj
          rw [Addr.add_lit, Nat.zero_add]
          exact (bn.cell j).trans (by simpa using hj)
        intro u12 wa hown' hgrow hat
        have hob := fun q e => (o6.lt q e).1
        replace bj := bj.grown hgrow (fun e => by have := hob _ e.symm; omega)
        replace bz := bz.grown hgrow (fun e => by have := hob _ e.symm; omega)
        replace K2 := K2.app hgrow hob HBS.out
        replace hbs := Nat.le_trans hbs hgrow.size
        have o9 : wa.ownsRow base 83 5 u12 1 (fcsC ([(nm, ⟨n2, n3, n4, n5⟩)])) := by simpa [fcsC] using hown'
        clear hown' hgrow hat hob
        obtain ⟨A', c', hv, _⟩ := Row.own o9
        subst hv
        clear o6 bn
        try clear j0 j1 j2 j3 jf lj
        try clear o3
        try clear R
        try simp only [Act.put]
        try simp only [List.setIfInBounds_toArray]
        refine hK _ _ bz ?_
        clear hK K
        refine wpW_branch [7] (by kernel_rfl) (by simp) ?_
        intro w6 hg6 hS6
        replace bj := Blk.gr bj hg6
        replace bz := Blk.gr bz hg6
        replace K2 := KeepsTwo.gr K2 hg6
        replace hbs := Nat.le_trans hbs (Below.size hg6)
        replace o9 := own_below o9 hg6
        refine each_cons ?_ (each_nil)
        refine wpOp_go (by rfl) (Eq.refl _) (by go_simp; done) ?_
        intro K hK
        go_simp
        try simp only [Act.put]
        refine hK _ _ bz ?_
        clear hK K
        refine wpW_branch [8] (by kernel_rfl) (by simp) ?_
        intro w7 hg7 hS7
        replace bj := Blk.gr bj hg7
        replace bz := Blk.gr bz hg7
        replace K2 := KeepsTwo.gr K2 hg7
        replace hbs := Nat.le_trans hbs (Below.size hg7)
        try clear j0 j1 j2 j3 jf lj
        obtain ⟨j0, j1, j2, j3, jf⟩ := blk4 bj
        have lj := bj.lt
        replace o9 := own_below o9 hg7
        refine each_cons ?_ (each_nil)
        refine wpOp_go (by rfl) (Eq.refl _) (by go_simp; done) ?_
        intro K hK
        go_simp
        try simp only [Act.put]
        replace bz := bz.far (p := ⟨jb, 3, none⟩) (Blk.ne_ bz bj (by decide)) (.slice A' 1 c')
        replace o9 := o9.kept (grown1 w7 jb 3 (.slice A' 1 c')) (.inr (own_blk_ne o9 bj (by decide)))
        replace bj := bj.set_ 3 (.slice A' 1 c')
        replace K2 := K2.set 3 (.slice A' 1 c')
        refine hK _ _ bz ?_
        clear hK K j0 j1 j2 j3 jf lj hbs
        refine wpW_end (by kernel_rfl) ?_
        intro we hg hS
        unfold NQ
        dsimp only
        replace bj := Blk.gr bj hg
        replace o9 := own_below o9 hg
        replace K2 := K2.gr hg
        refine H.out _ _ _ _ _ _ _ _ A' c' we ?_ o9 K2
        unfold joC
        simpa using bj
    · refine wpOp_go (by rfl) (Eq.refl _) (by go_simp; done) ?_
      intro K hK
      go_simp
      try simp only [Act.put]
      try (have nne : some w2.heap.size ≠ (Value.slice (some ⟨ge, 0, none⟩) 0 0).ownBlock := own_ne o3 (.inr (Nat.le_refl _)))
      have bn := Blk.new w2 83 #[.string nm, .int .i64 n2, .int .i64 n3, .int .i64 n4, .int .i64 n5]
      have hgn : base ≤ w2.heap.size := hbs
      have hal : Gr w2 (w2.alloc (.cells #[.string nm, .int .i64 n2, .int .i64 n3, .int .i64 n4, .int .i64 n5] 83)) := (Below.refl _ _).alloc (Nat.le_refl _) _
      replace bj := Blk.gr bj hal
      replace bz := Blk.gr bz hal
      replace K2 := KeepsTwo.gr K2 hal
      replace hbs := Nat.le_trans hbs (Below.size hal)
      try replace o3 := own_below o3 hal
      try replace o6 := own_below o6 hal
      clear hal
      try clear j0 j1 j2 j3 jf lj
      generalize w2.heap.size = gn at *
      refine hK _ _ bz ?_
      clear hK K
      refine wpW_branch [2] (by kernel_rfl) (by simp) ?_
      intro w3 hg3 hS3
      replace bj := Blk.gr bj hg3
      replace bz := Blk.gr bz hg3
      replace K2 := KeepsTwo.gr K2 hg3
      skip
      replace hbs := Nat.le_trans hbs (Below.size hg3)
      try clear j0 j1 j2 j3 jf lj
      obtain ⟨j0, j1, j2, j3, jf⟩ := blk4 bj
      have lj := bj.lt
      replace o3 := own_below o3 hg3
      replace bn := Blk.gr bn hg3
      refine each_cons ?_ (each_nil)
      refine wpOp_go (by rfl) (Eq.refl _) (by go_simp; done) ?_
      intro K hK
      go_simp
      try simp only [Act.put]
      refine hK _ _ bz ?_
      clear hK K
      refine wpW_branch [3] (by kernel_rfl) (by simp) ?_
      intro w4 hg4 hS4
      replace bj := Blk.gr bj hg4
      replace bz := Blk.gr bz hg4
      replace K2 := KeepsTwo.gr K2 hg4
      skip
      replace hbs := Nat.le_trans hbs (Below.size hg4)
      replace o3 := own_below o3 hg4
      replace bn := Blk.gr bn hg4
      refine each_cons ?_ (each_nil)
      refine wpOp_go (by rfl) (Eq.refl _) (by go_simp; done) ?_
      intro K hK
      refine wp_append_none _ (.tmp 103) (.tmp 105) 22 rfl base 83 i0 5 Tryz.underlying22 hi _ 0 [] rfl o3 rfl ?_
      have o6 := o3
      clear o3
      try simp only [Act.put]
      try simp only [List.setIfInBounds_toArray]
      refine hK _ _ bz ?_
      clear hK K
      refine wpW_branch [6] (by kernel_rfl) (by simp) ?_
      intro w5 hg5 hS5
      replace bj := Blk.gr bj hg5
      replace bz := Blk.gr bz hg5
      replace K2 := KeepsTwo.gr K2 hg5
      replace hbs := Nat.le_trans hbs (Below.size hg5)
      replace o6 := own_below o6 hg5
      replace bn := Blk.gr bn hg5
      refine each_cons ?_ (each_nil)
      refine wpOp_go (by rfl) (Eq.refl _) (by go_simp; done) ?_
      intro K hK
      refine wp_append_at _ (.tmp 106) (.tmp 108) 22 rfl base 83 i0 _ 5 48 Tryz.underlying22 hi iz0 iz1 iz2 rfl (by decide) _ 0 [] rfl o6 ⟨gn, 0, none⟩ 1 1 [.string nm, .int .i64 n2, .int .i64 n3, .int .i64 n4, .int .i64 n5] rfl rfl ?hc (by simp [Value.oneCell']) (by unfold maxLen; omega) (by omega) hbs ?_
      case hc =>
        intro j u hj
        rw [Addr.add_lit, Nat.zero_add]
        exact (bn.cell j).trans (by simpa using hj)
      intro u12 wa hown' hgrow hat
      have hob := fun q e => (o6.lt q e).1
      replace bj := bj.grown hgrow (fun e => by have := hob _ e.symm; omega)
      replace bz := bz.grown hgrow (fun e => by have := hob _ e.symm; omega)
      replace K2 := K2.app hgrow hob HBS.out
      replace hbs := Nat.le_trans hbs hgrow.size
      have o9 : wa.ownsRow base 83 5 u12 1 (fcsC ([(nm, ⟨n2, n3, n4, n5⟩)])) := by simpa [fcsC] using hown'
      clear hown' hgrow hat hob
      obtain ⟨A', c', hv, _⟩ := Row.own o9
      subst hv
      clear o6 bn
      try clear j0 j1 j2 j3 jf lj
      try clear o3
      try clear R
      try simp only [Act.put]
      try simp only [List.setIfInBounds_toArray]
      refine hK _ _ bz ?_
      clear hK K
      refine wpW_branch [7] (by kernel_rfl) (by simp) ?_
      intro w6 hg6 hS6
      replace bj := Blk.gr bj hg6
      replace bz := Blk.gr bz hg6
      replace K2 := KeepsTwo.gr K2 hg6
      replace hbs := Nat.le_trans hbs (Below.size hg6)
      replace o9 := own_below o9 hg6
      refine each_cons ?_ (each_nil)
      refine wpOp_go (by rfl) (Eq.refl _) (by go_simp; done) ?_
      intro K hK
      go_simp
      try simp only [Act.put]
      refine hK _ _ bz ?_
      clear hK K
      refine wpW_branch [8] (by kernel_rfl) (by simp) ?_
      intro w7 hg7 hS7
      replace bj := Blk.gr bj hg7
      replace bz := Blk.gr bz hg7
      replace K2 := KeepsTwo.gr K2 hg7
      replace hbs := Nat.le_trans hbs (Below.size hg7)
      try clear j0 j1 j2 j3 jf lj
      obtain ⟨j0, j1, j2, j3, jf⟩ := blk4 bj
      have lj := bj.lt
      replace o9 := own_below o9 hg7
      refine each_cons ?_ (each_nil)
      refine wpOp_go (by rfl) (Eq.refl _) (by go_simp; done) ?_
      intro K hK
      go_simp
      try simp only [Act.put]
      replace bz := bz.far (p := ⟨jb, 3, none⟩) (Blk.ne_ bz bj (by decide)) (.slice A' 1 c')
      replace o9 := o9.kept (grown1 w7 jb 3 (.slice A' 1 c')) (.inr (own_blk_ne o9 bj (by decide)))
      replace bj := bj.set_ 3 (.slice A' 1 c')
      replace K2 := K2.set 3 (.slice A' 1 c')
      refine hK _ _ bz ?_
      clear hK K j0 j1 j2 j3 jf lj hbs
      refine wpW_end (by kernel_rfl) ?_
      intro we hg hS
      unfold NQ
      dsimp only
      replace bj := Blk.gr bj hg
      replace o9 := own_below o9 hg
      replace K2 := K2.gr hg
      refine H.out _ _ _ _ _ _ _ _ A' c' we ?_ o9 K2
      unfold joC
      simpa using bj
  · refine wpOp_go (by rfl) (Eq.refl _) (by go_simp; done) ?_
    intro K hK
    go_simp
    try simp only [Act.put]
    refine hK _ _ bz ?_
    clear hK K
    refine wpW_branch [0, 5] (by kernel_rfl) (by simp) ?_
    intro w2 hg2 hS2
    replace bj := Blk.gr bj hg2
    replace bz := Blk.gr bz hg2
    replace K2 := KeepsTwo.gr K2 hg2
    skip
    replace hbs := Nat.le_trans hbs (Below.size hg2)
    refine each_cons ?_ (each_cons ?_ (each_nil))
    · refine wpOp_go (by rfl) (Eq.refl _) (by go_simp; done) ?_
      intro K hK
      go_simp
      try simp only [Act.put]
      try (have nne : some gn ≠ (Value.slice (some ⟨w2.heap.size, 0, none⟩) 0 0).ownBlock := fun e => by have h1 := bn.lt; simp [Value.ownBlock] at e; omega)
      have hal : Gr w2 (w2.alloc (.cells #[] 83)) := (Below.refl _ _).alloc (Nat.le_refl _) _
      have o3 : (w2.alloc (.cells #[] 83)).ownsRow base 83 5 (.slice (some ⟨w2.heap.size, 0, none⟩) 0 0) 0 [] := by
        have h := World.ownsRow_made (base := base) (e := 83) (size := 5) w2 #[] 0 hbs (by decide) rfl
        simpa using h
      replace bj := Blk.gr bj hal
      replace bz := Blk.gr bz hal
      replace K2 := KeepsTwo.gr K2 hal
      replace hbs := Nat.le_trans hbs (Below.size hal)
      try replace bn := Blk.gr bn hal
      clear hal
      try clear j0 j1 j2 j3 jf lj
      generalize w2.heap.size = ge at *
      refine hK _ _ bz ?_
      clear hK K
      refine wpW_branch [3, 5] (by kernel_rfl) (by simp) ?_
      intro w3 hg3 hS3
      replace bj := Blk.gr bj hg3
      replace bz := Blk.gr bz hg3
      replace K2 := KeepsTwo.gr K2 hg3
      skip
      replace hbs := Nat.le_trans hbs (Below.size hg3)
      replace o3 := own_below o3 hg3
      refine each_cons ?_ (each_cons ?_ (each_nil))
      · refine wpOp_go (by rfl) (Eq.refl _) (by go_simp; done) ?_
        intro K hK
        refine wp_append_none _ (.tmp 103) (.tmp 105) 22 rfl base 83 i0 5 Tryz.underlying22 hi _ 0 [] rfl o3 rfl ?_
        have o6 := o3
        clear o3
        try simp only [Act.put]
        try simp only [List.setIfInBounds_toArray]
        refine hK _ _ bz ?_
        clear hK K
        refine wpW_branch [5] (by kernel_rfl) (by simp) ?_
        intro w4 hg4 hS4
        replace bj := Blk.gr bj hg4
        replace bz := Blk.gr bz hg4
        replace K2 := KeepsTwo.gr K2 hg4
        replace hbs := Nat.le_trans hbs (Below.size hg4)
        replace o6 := own_below o6 hg4
        refine each_cons ?_ (each_nil)
        refine wpOp_go (by rfl) (Eq.refl _) (by go_simp; done) ?_
        intro K hK
        go_simp
        try simp only [Act.put]
        try (have nne : some w4.heap.size ≠ (Value.slice (some ⟨ge, 0, none⟩) 0 0).ownBlock := own_ne o3 (.inr (Nat.le_refl _)))
        have bn := Blk.new w4 83 #[.string nm, .int .i64 n2, .int .i64 n3, .int .i64 n4, .int .i64 n5]
        have hgn : base ≤ w4.heap.size := hbs
        have hal : Gr w4 (w4.alloc (.cells #[.string nm, .int .i64 n2, .int .i64 n3, .int .i64 n4, .int .i64 n5] 83)) := (Below.refl _ _).alloc (Nat.le_refl _) _
        replace bj := Blk.gr bj hal
        replace bz := Blk.gr bz hal
        replace K2 := KeepsTwo.gr K2 hal
        replace hbs := Nat.le_trans hbs (Below.size hal)
        try replace o3 := own_below o3 hal
        try replace o6 := own_below o6 hal
        clear hal
        try clear j0 j1 j2 j3 jf lj
        generalize w4.heap.size = gn at *
        refine hK _ _ bz ?_
        clear hK K
        refine wpW_branch [6] (by kernel_rfl) (by simp) ?_
        intro w5 hg5 hS5
        replace bj := Blk.gr bj hg5
        replace bz := Blk.gr bz hg5
        replace K2 := KeepsTwo.gr K2 hg5
        replace hbs := Nat.le_trans hbs (Below.size hg5)
        replace o6 := own_below o6 hg5
        replace bn := Blk.gr bn hg5
        refine each_cons ?_ (each_nil)
        refine wpOp_go (by rfl) (Eq.refl _) (by go_simp; done) ?_
        intro K hK
        refine wp_append_at _ (.tmp 106) (.tmp 108) 22 rfl base 83 i0 _ 5 48 Tryz.underlying22 hi iz0 iz1 iz2 rfl (by decide) _ 0 [] rfl o6 ⟨gn, 0, none⟩ 1 1 [.string nm, .int .i64 n2, .int .i64 n3, .int .i64 n4, .int .i64 n5] rfl rfl ?hc (by simp [Value.oneCell']) (by unfold maxLen; omega) (by omega) hbs ?_
        case hc =>
          intro j u hj
          rw [Addr.add_lit, Nat.zero_add]
          exact (bn.cell j).trans (by simpa using hj)
        intro u12 wa hown' hgrow hat
        have hob := fun q e => (o6.lt q e).1
        replace bj := bj.grown hgrow (fun e => by have := hob _ e.symm; omega)
        replace bz := bz.grown hgrow (fun e => by have := hob _ e.symm; omega)
        replace K2 := K2.app hgrow hob HBS.out
        replace hbs := Nat.le_trans hbs hgrow.size
        have o9 : wa.ownsRow base 83 5 u12 1 (fcsC ([(nm, ⟨n2, n3, n4, n5⟩)])) := by simpa [fcsC] using hown'
        clear hown' hgrow hat hob
        obtain ⟨A', c', hv, _⟩ := Row.own o9
        subst hv
        clear o6 bn
        try clear j0 j1 j2 j3 jf lj
        try clear o3
        try clear R
        try simp only [Act.put]
        try simp only [List.setIfInBounds_toArray]
        refine hK _ _ bz ?_
        clear hK K
        refine wpW_branch [7] (by kernel_rfl) (by simp) ?_
        intro w6 hg6 hS6
        replace bj := Blk.gr bj hg6
        replace bz := Blk.gr bz hg6
        replace K2 := KeepsTwo.gr K2 hg6
        replace hbs := Nat.le_trans hbs (Below.size hg6)
        replace o9 := own_below o9 hg6
        refine each_cons ?_ (each_nil)
        refine wpOp_go (by rfl) (Eq.refl _) (by go_simp; done) ?_
        intro K hK
        go_simp
        try simp only [Act.put]
        refine hK _ _ bz ?_
        clear hK K
        refine wpW_branch [8] (by kernel_rfl) (by simp) ?_
        intro w7 hg7 hS7
        replace bj := Blk.gr bj hg7
        replace bz := Blk.gr bz hg7
        replace K2 := KeepsTwo.gr K2 hg7
        replace hbs := Nat.le_trans hbs (Below.size hg7)
        try clear j0 j1 j2 j3 jf lj
        obtain ⟨j0, j1, j2, j3, jf⟩ := blk4 bj
        have lj := bj.lt
        replace o9 := own_below o9 hg7
        refine each_cons ?_ (each_nil)
        refine wpOp_go (by rfl) (Eq.refl _) (by go_simp; done) ?_
        intro K hK
        go_simp
        try simp only [Act.put]
        replace bz := bz.far (p := ⟨jb, 3, none⟩) (Blk.ne_ bz bj (by decide)) (.slice A' 1 c')
        replace o9 := o9.kept (grown1 w7 jb 3 (.slice A' 1 c')) (.inr (own_blk_ne o9 bj (by decide)))
        replace bj := bj.set_ 3 (.slice A' 1 c')
        replace K2 := K2.set 3 (.slice A' 1 c')
        refine hK _ _ bz ?_
        clear hK K j0 j1 j2 j3 jf lj hbs
        refine wpW_end (by kernel_rfl) ?_
        intro we hg hS
        unfold NQ
        dsimp only
        replace bj := Blk.gr bj hg
        replace o9 := own_below o9 hg
        replace K2 := K2.gr hg
        refine H.out _ _ _ _ _ _ _ _ A' c' we ?_ o9 K2
        unfold joC
        simpa using bj
      · refine wpOp_go (by rfl) (Eq.refl _) (by go_simp; done) ?_
        intro K hK
        go_simp
        try simp only [Act.put]
        try (have nne : some w3.heap.size ≠ (Value.slice (some ⟨ge, 0, none⟩) 0 0).ownBlock := own_ne o3 (.inr (Nat.le_refl _)))
        have bn := Blk.new w3 83 #[.string nm, .int .i64 n2, .int .i64 n3, .int .i64 n4, .int .i64 n5]
        have hgn : base ≤ w3.heap.size := hbs
        have hal : Gr w3 (w3.alloc (.cells #[.string nm, .int .i64 n2, .int .i64 n3, .int .i64 n4, .int .i64 n5] 83)) := (Below.refl _ _).alloc (Nat.le_refl _) _
        replace bj := Blk.gr bj hal
        replace bz := Blk.gr bz hal
        replace K2 := KeepsTwo.gr K2 hal
        replace hbs := Nat.le_trans hbs (Below.size hal)
        try replace o3 := own_below o3 hal
        try replace o6 := own_below o6 hal
        clear hal
        try clear j0 j1 j2 j3 jf lj
        generalize w3.heap.size = gn at *
        refine hK _ _ bz ?_
        clear hK K
        refine wpW_branch [3] (by kernel_rfl) (by simp) ?_
        intro w4 hg4 hS4
        replace bj := Blk.gr bj hg4
        replace bz := Blk.gr bz hg4
        replace K2 := KeepsTwo.gr K2 hg4
        skip
        replace hbs := Nat.le_trans hbs (Below.size hg4)
        replace o3 := own_below o3 hg4
        replace bn := Blk.gr bn hg4
        refine each_cons ?_ (each_nil)
        refine wpOp_go (by rfl) (Eq.refl _) (by go_simp; done) ?_
        intro K hK
        refine wp_append_none _ (.tmp 103) (.tmp 105) 22 rfl base 83 i0 5 Tryz.underlying22 hi _ 0 [] rfl o3 rfl ?_
        have o6 := o3
        clear o3
        try simp only [Act.put]
        try simp only [List.setIfInBounds_toArray]
        refine hK _ _ bz ?_
        clear hK K
        refine wpW_branch [6] (by kernel_rfl) (by simp) ?_
        intro w5 hg5 hS5
        replace bj := Blk.gr bj hg5
        replace bz := Blk.gr bz hg5
        replace K2 := KeepsTwo.gr K2 hg5
        replace hbs := Nat.le_trans hbs (Below.size hg5)
        replace o6 := own_below o6 hg5
        replace bn := Blk.gr bn hg5
        refine each_cons ?_ (each_nil)
        refine wpOp_go (by rfl) (Eq.refl _) (by go_simp; done) ?_
        intro K hK
        refine wp_append_at _ (.tmp 106) (.tmp 108) 22 rfl base 83 i0 _ 5 48 Tryz.underlying22 hi iz0 iz1 iz2 rfl (by decide) _ 0 [] rfl o6 ⟨gn, 0, none⟩ 1 1 [.string nm, .int .i64 n2, .int .i64 n3, .int .i64 n4, .int .i64 n5] rfl rfl ?hc (by simp [Value.oneCell']) (by unfold maxLen; omega) (by omega) hbs ?_
        case hc =>
          intro j u hj
          rw [Addr.add_lit, Nat.zero_add]
          exact (bn.cell j).trans (by simpa using hj)
        intro u12 wa hown' hgrow hat
        have hob := fun q e => (o6.lt q e).1
        replace bj := bj.grown hgrow (fun e => by have := hob _ e.symm; omega)
        replace bz := bz.grown hgrow (fun e => by have := hob _ e.symm; omega)
        replace K2 := K2.app hgrow hob HBS.out
        replace hbs := Nat.le_trans hbs hgrow.size
        have o9 : wa.ownsRow base 83 5 u12 1 (fcsC ([(nm, ⟨n2, n3, n4, n5⟩)])) := by simpa [fcsC] using hown'
        clear hown' hgrow hat hob
        obtain ⟨A', c', hv, _⟩ := Row.own o9
        subst hv
        clear o6 bn
        try clear j0 j1 j2 j3 jf lj
        try clear o3
        try clear R
        try simp only [Act.put]
        try simp only [List.setIfInBounds_toArray]
        refine hK _ _ bz ?_
        clear hK K
        refine wpW_branch [7] (by kernel_rfl) (by simp) ?_
        intro w6 hg6 hS6
        replace bj := Blk.gr bj hg6
        replace bz := Blk.gr bz hg6
        replace K2 := KeepsTwo.gr K2 hg6
        replace hbs := Nat.le_trans hbs (Below.size hg6)
        replace o9 := own_below o9 hg6
        refine each_cons ?_ (each_nil)
        refine wpOp_go (by rfl) (Eq.refl _) (by go_simp; done) ?_
        intro K hK
        go_simp
        try simp only [Act.put]
        refine hK _ _ bz ?_
        clear hK K
        refine wpW_branch [8] (by kernel_rfl) (by simp) ?_
        intro w7 hg7 hS7
        replace bj := Blk.gr bj hg7
        replace bz := Blk.gr bz hg7
        replace K2 := KeepsTwo.gr K2 hg7
        replace hbs := Nat.le_trans hbs (Below.size hg7)
        try clear j0 j1 j2 j3 jf lj
        obtain ⟨j0, j1, j2, j3, jf⟩ := blk4 bj
        have lj := bj.lt
        replace o9 := own_below o9 hg7
        refine each_cons ?_ (each_nil)
        refine wpOp_go (by rfl) (Eq.refl _) (by go_simp; done) ?_
        intro K hK
        go_simp
        try simp only [Act.put]
        replace bz := bz.far (p := ⟨jb, 3, none⟩) (Blk.ne_ bz bj (by decide)) (.slice A' 1 c')
        replace o9 := o9.kept (grown1 w7 jb 3 (.slice A' 1 c')) (.inr (own_blk_ne o9 bj (by decide)))
        replace bj := bj.set_ 3 (.slice A' 1 c')
        replace K2 := K2.set 3 (.slice A' 1 c')
        refine hK _ _ bz ?_
        clear hK K j0 j1 j2 j3 jf lj hbs
        refine wpW_end (by kernel_rfl) ?_
        intro we hg hS
        unfold NQ
        dsimp only
        replace bj := Blk.gr bj hg
        replace o9 := own_below o9 hg
        replace K2 := K2.gr hg
        refine H.out _ _ _ _ _ _ _ _ A' c' we ?_ o9 K2
        unfold joC
        simpa using bj
    · refine wpOp_go (by rfl) (Eq.refl _) (by go_simp; done) ?_
      intro K hK
      go_simp
      try simp only [Act.put]
      try (have nne : some w2.heap.size ≠ (Value.slice (some ⟨ge, 0, none⟩) 0 0).ownBlock := own_ne o3 (.inr (Nat.le_refl _)))
      have bn := Blk.new w2 83 #[.string nm, .int .i64 n2, .int .i64 n3, .int .i64 n4, .int .i64 n5]
      have hgn : base ≤ w2.heap.size := hbs
      have hal : Gr w2 (w2.alloc (.cells #[.string nm, .int .i64 n2, .int .i64 n3, .int .i64 n4, .int .i64 n5] 83)) := (Below.refl _ _).alloc (Nat.le_refl _) _
      replace bj := Blk.gr bj hal
      replace bz := Blk.gr bz hal
      replace K2 := KeepsTwo.gr K2 hal
      replace hbs := Nat.le_trans hbs (Below.size hal)
      try replace o3 := own_below o3 hal
      try replace o6 := own_below o6 hal
      clear hal
      try clear j0 j1 j2 j3 jf lj
      generalize w2.heap.size = gn at *
      refine hK _ _ bz ?_
      clear hK K
      refine wpW_branch [0] (by kernel_rfl) (by simp) ?_
      intro w3 hg3 hS3
      replace bj := Blk.gr bj hg3
      replace bz := Blk.gr bz hg3
      replace K2 := KeepsTwo.gr K2 hg3
      skip
      replace hbs := Nat.le_trans hbs (Below.size hg3)
      replace bn := Blk.gr bn hg3
      refine each_cons ?_ (each_nil)
      refine wpOp_go (by rfl) (Eq.refl _) (by go_simp; done) ?_
      intro K hK
      go_simp
      try simp only [Act.put]
      try (have nne : some gn ≠ (Value.slice (some ⟨w3.heap.size, 0, none⟩) 0 0).ownBlock := fun e => by have h1 := bn.lt; simp [Value.ownBlock] at e; omega)
      have hal : Gr w3 (w3.alloc (.cells #[] 83)) := (Below.refl _ _).alloc (Nat.le_refl _) _
      have o3 : (w3.alloc (.cells #[] 83)).ownsRow base 83 5 (.slice (some ⟨w3.heap.size, 0, none⟩) 0 0) 0 [] := by
        have h := World.ownsRow_made (base := base) (e := 83) (size := 5) w3 #[] 0 hbs (by decide) rfl
        simpa using h
      replace bj := Blk.gr bj hal
      replace bz := Blk.gr bz hal
      replace K2 := KeepsTwo.gr K2 hal
      replace hbs := Nat.le_trans hbs (Below.size hal)
      try replace bn := Blk.gr bn hal
      clear hal
      try clear j0 j1 j2 j3 jf lj
      generalize w3.heap.size = ge at *
      refine hK _ _ bz ?_
      clear hK K
      refine wpW_branch [3] (by kernel_rfl) (by simp) ?_
      intro w4 hg4 hS4
      replace bj := Blk.gr bj hg4
      replace bz := Blk.gr bz hg4
      replace K2 := KeepsTwo.gr K2 hg4
      skip
      replace hbs := Nat.le_trans hbs (Below.size hg4)
      replace o3 := own_below o3 hg4
      replace bn := Blk.gr bn hg4
      refine each_cons ?_ (each_nil)
      refine wpOp_go (by rfl) (Eq.refl _) (by go_simp; done) ?_
      intro K hK
      refine wp_append_none _ (.tmp 103) (.tmp 105) 22 rfl base 83 i0 5 Tryz.underlying22 hi _ 0 [] rfl o3 rfl ?_
      have o6 := o3
      clear o3
      try simp only [Act.put]
      try simp only [List.setIfInBounds_toArray]
      refine hK _ _ bz ?_
      clear hK K
      refine wpW_branch [6] (by kernel_rfl) (by simp) ?_
      intro w5 hg5 hS5
      replace bj := Blk.gr bj hg5
      replace bz := Blk.gr bz hg5
      replace K2 := KeepsTwo.gr K2 hg5
      replace hbs := Nat.le_trans hbs (Below.size hg5)
      replace o6 := own_below o6 hg5
      replace bn := Blk.gr bn hg5
      refine each_cons ?_ (each_nil)
      refine wpOp_go (by rfl) (Eq.refl _) (by go_simp; done) ?_
      intro K hK
      refine wp_append_at _ (.tmp 106) (.tmp 108) 22 rfl base 83 i0 _ 5 48 Tryz.underlying22 hi iz0 iz1 iz2 rfl (by decide) _ 0 [] rfl o6 ⟨gn, 0, none⟩ 1 1 [.string nm, .int .i64 n2, .int .i64 n3, .int .i64 n4, .int .i64 n5] rfl rfl ?hc (by simp [Value.oneCell']) (by unfold maxLen; omega) (by omega) hbs ?_
      case hc =>
        intro j u hj
        rw [Addr.add_lit, Nat.zero_add]
        exact (bn.cell j).trans (by simpa using hj)
      intro u12 wa hown' hgrow hat
      have hob := fun q e => (o6.lt q e).1
      replace bj := bj.grown hgrow (fun e => by have := hob _ e.symm; omega)
      replace bz := bz.grown hgrow (fun e => by have := hob _ e.symm; omega)
      replace K2 := K2.app hgrow hob HBS.out
      replace hbs := Nat.le_trans hbs hgrow.size
      have o9 : wa.ownsRow base 83 5 u12 1 (fcsC ([(nm, ⟨n2, n3, n4, n5⟩)])) := by simpa [fcsC] using hown'
      clear hown' hgrow hat hob
      obtain ⟨A', c', hv, _⟩ := Row.own o9
      subst hv
      clear o6 bn
      try clear j0 j1 j2 j3 jf lj
      try clear o3
      try clear R
      try simp only [Act.put]
      try simp only [List.setIfInBounds_toArray]
      refine hK _ _ bz ?_
      clear hK K
      refine wpW_branch [7] (by kernel_rfl) (by simp) ?_
      intro w6 hg6 hS6
      replace bj := Blk.gr bj hg6
      replace bz := Blk.gr bz hg6
      replace K2 := KeepsTwo.gr K2 hg6
      replace hbs := Nat.le_trans hbs (Below.size hg6)
      replace o9 := own_below o9 hg6
      refine each_cons ?_ (each_nil)
      refine wpOp_go (by rfl) (Eq.refl _) (by go_simp; done) ?_
      intro K hK
      go_simp
      try simp only [Act.put]
      refine hK _ _ bz ?_
      clear hK K
      refine wpW_branch [8] (by kernel_rfl) (by simp) ?_
      intro w7 hg7 hS7
      replace bj := Blk.gr bj hg7
      replace bz := Blk.gr bz hg7
      replace K2 := KeepsTwo.gr K2 hg7
      replace hbs := Nat.le_trans hbs (Below.size hg7)
      try clear j0 j1 j2 j3 jf lj
      obtain ⟨j0, j1, j2, j3, jf⟩ := blk4 bj
      have lj := bj.lt
      replace o9 := own_below o9 hg7
      refine each_cons ?_ (each_nil)
      refine wpOp_go (by rfl) (Eq.refl _) (by go_simp; done) ?_
      intro K hK
      go_simp
      try simp only [Act.put]
      replace bz := bz.far (p := ⟨jb, 3, none⟩) (Blk.ne_ bz bj (by decide)) (.slice A' 1 c')
      replace o9 := o9.kept (grown1 w7 jb 3 (.slice A' 1 c')) (.inr (own_blk_ne o9 bj (by decide)))
      replace bj := bj.set_ 3 (.slice A' 1 c')
      replace K2 := K2.set 3 (.slice A' 1 c')
      refine hK _ _ bz ?_
      clear hK K j0 j1 j2 j3 jf lj hbs
      refine wpW_end (by kernel_rfl) ?_
      intro we hg hS
      unfold NQ
      dsimp only
      replace bj := Blk.gr bj hg
      replace o9 := own_below o9 hg
      replace K2 := K2.gr hg
      refine H.out _ _ _ _ _ _ _ _ A' c' we ?_ o9 K2
      unfold joC
      simpa using bj
  · refine wpOp_go (by rfl) (Eq.refl _) (by go_simp; done) ?_
    intro K hK
    go_simp
    try simp only [Act.put]
    try (have nne : some w1.heap.size ≠ (Value.slice (some ⟨ge, 0, none⟩) 0 0).ownBlock := own_ne o3 (.inr (Nat.le_refl _)))
    have bn := Blk.new w1 83 #[.string nm, .int .i64 n2, .int .i64 n3, .int .i64 n4, .int .i64 n5]
    have hgn : base ≤ w1.heap.size := hbs
    have hal : Gr w1 (w1.alloc (.cells #[.string nm, .int .i64 n2, .int .i64 n3, .int .i64 n4, .int .i64 n5] 83)) := (Below.refl _ _).alloc (Nat.le_refl _) _
    replace bj := Blk.gr bj hal
    replace bz := Blk.gr bz hal
    replace K2 := KeepsTwo.gr K2 hal
    replace hbs := Nat.le_trans hbs (Below.size hal)
    try replace o3 := own_below o3 hal
    try replace o6 := own_below o6 hal
    clear hal
    try clear j0 j1 j2 j3 jf lj
    generalize w1.heap.size = gn at *
    refine hK _ _ bz ?_
    clear hK K
    refine wpW_branch [0, 2] (by kernel_rfl) (by simp) ?_
    intro w2 hg2 hS2
    replace bj := Blk.gr bj hg2
    replace bz := Blk.gr bz hg2
    replace K2 := KeepsTwo.gr K2 hg2
    skip
    replace hbs := Nat.le_trans hbs (Below.size hg2)
    try clear j0 j1 j2 j3 jf lj
    obtain ⟨j0, j1, j2, j3, jf⟩ := blk4 bj
    have lj := bj.lt
    replace bn := Blk.gr bn hg2
    refine each_cons ?_ (each_cons ?_ (each_nil))
    · refine wpOp_go (by rfl) (Eq.refl _) (by go_simp; done) ?_
      intro K hK
      go_simp
      try simp only [Act.put]
      try (have nne : some gn ≠ (Value.slice (some ⟨w2.heap.size, 0, none⟩) 0 0).ownBlock := fun e => by have h1 := bn.lt; simp [Value.ownBlock] at e; omega)
      have hal : Gr w2 (w2.alloc (.cells #[] 83)) := (Below.refl _ _).alloc (Nat.le_refl _) _
      have o3 : (w2.alloc (.cells #[] 83)).ownsRow base 83 5 (.slice (some ⟨w2.heap.size, 0, none⟩) 0 0) 0 [] := by
        have h := World.ownsRow_made (base := base) (e := 83) (size := 5) w2 #[] 0 hbs (by decide) rfl
        simpa using h
      replace bj := Blk.gr bj hal
      replace bz := Blk.gr bz hal
      replace K2 := KeepsTwo.gr K2 hal
      replace hbs := Nat.le_trans hbs (Below.size hal)
      try replace bn := Blk.gr bn hal
      clear hal
      try clear j0 j1 j2 j3 jf lj
      generalize w2.heap.size = ge at *
      refine hK _ _ bz ?_
      clear hK K
      refine wpW_branch [2] (by kernel_rfl) (by simp) ?_
      intro w3 hg3 hS3
      replace bj := Blk.gr bj hg3
      replace bz := Blk.gr bz hg3
      replace K2 := KeepsTwo.gr K2 hg3
      skip
      replace hbs := Nat.le_trans hbs (Below.size hg3)
      try clear j0 j1 j2 j3 jf lj
      obtain ⟨j0, j1, j2, j3, jf⟩ := blk4 bj
      have lj := bj.lt
      replace o3 := own_below o3 hg3
      replace bn := Blk.gr bn hg3
      refine each_cons ?_ (each_nil)
      refine wpOp_go (by rfl) (Eq.refl _) (by go_simp; done) ?_
      intro K hK
      go_simp
      try simp only [Act.put]
      refine hK _ _ bz ?_
      clear hK K
      refine wpW_branch [3] (by kernel_rfl) (by simp) ?_
      intro w4 hg4 hS4
      replace bj := Blk.gr bj hg4
      replace bz := Blk.gr bz hg4
      replace K2 := KeepsTwo.gr K2 hg4
      skip
      replace hbs := Nat.le_trans hbs (Below.size hg4)
      replace o3 := own_below o3 hg4
      replace bn := Blk.gr bn hg4
      refine each_cons ?_ (each_nil)
      refine wpOp_go (by rfl) (Eq.refl _) (by go_simp; done) ?_
      intro K hK
      refine wp_append_none _ (.tmp 103) (.tmp 105) 22 rfl base 83 i0 5 Tryz.underlying22 hi _ 0 [] rfl o3 rfl ?_
      have o6 := o3
      clear o3
      try simp only [Act.put]
      try simp only [List.setIfInBounds_toArray]
      refine hK _ _ bz ?_
      clear hK K
      refine wpW_branch [6] (by kernel_rfl) (by simp) ?_
      intro w5 hg5 hS5
      replace bj := Blk.gr bj hg5
      replace bz := Blk.gr bz hg5
      replace K2 := KeepsTwo.gr K2 hg5
      replace hbs := Nat.le_trans hbs (Below.size hg5)
      replace o6 := own_below o6 hg5
      replace bn := Blk.gr bn hg5
      refine each_cons ?_ (each_nil)
      refine wpOp_go (by rfl) (Eq.refl _) (by go_simp; done) ?_
      intro K hK
      refine wp_append_at _ (.tmp 106) (.tmp 108) 22 rfl base 83 i0 _ 5 48 Tryz.underlying22 hi iz0 iz1 iz2 rfl (by decide) _ 0 [] rfl o6 ⟨gn, 0, none⟩ 1 1 [.string nm, .int .i64 n2, .int .i64 n3, .int .i64 n4, .int .i64 n5] rfl rfl ?hc (by simp [Value.oneCell']) (by unfold maxLen; omega) (by omega) hbs ?_
      case hc =>
        intro j u hj
        rw [Addr.add_lit, Nat.zero_add]
        exact (bn.cell j).trans (by simpa using hj)
      intro u12 wa hown' hgrow hat
      have hob := fun q e => (o6.lt q e).1
      replace bj := bj.grown hgrow (fun e => by have := hob _ e.symm; omega)
      replace bz := bz.grown hgrow (fun e => by have := hob _ e.symm; omega)
      replace K2 := K2.app hgrow hob HBS.out
      replace hbs := Nat.le_trans hbs hgrow.size
      have o9 : wa.ownsRow base 83 5 u12 1 (fcsC ([(nm, ⟨n2, n3, n4, n5⟩)])) := by simpa [fcsC] using hown'
      clear hown' hgrow hat hob
      obtain ⟨A', c', hv, _⟩ := Row.own o9
      subst hv
      clear o6 bn
      try clear j0 j1 j2 j3 jf lj
      try clear o3
      try clear R
      try simp only [Act.put]
      try simp only [List.setIfInBounds_toArray]
      refine hK _ _ bz ?_
      clear hK K
      refine wpW_branch [7] (by kernel_rfl) (by simp) ?_
      intro w6 hg6 hS6
      replace bj := Blk.gr bj hg6
      replace bz := Blk.gr bz hg6
      replace K2 := KeepsTwo.gr K2 hg6
      replace hbs := Nat.le_trans hbs (Below.size hg6)
      replace o9 := own_below o9 hg6
      refine each_cons ?_ (each_nil)
      refine wpOp_go (by rfl) (Eq.refl _) (by go_simp; done) ?_
      intro K hK
      go_simp
      try simp only [Act.put]
      refine hK _ _ bz ?_
      clear hK K
      refine wpW_branch [8] (by kernel_rfl) (by simp) ?_
      intro w7 hg7 hS7
      replace bj := Blk.gr bj hg7
      replace bz := Blk.gr bz hg7
      replace K2 := KeepsTwo.gr K2 hg7
      replace hbs := Nat.le_trans hbs (Below.size hg7)
      try clear j0 j1 j2 j3 jf lj
      obtain ⟨j0, j1, j2, j3, jf⟩ := blk4 bj
      have lj := bj.lt
      replace o9 := own_below o9 hg7
      refine each_cons ?_ (each_nil)
      refine wpOp_go (by rfl) (Eq.refl _) (by go_simp; done) ?_
      intro K hK
      go_simp
      try simp only [Act.put]
      replace bz := bz.far (p := ⟨jb, 3, none⟩) (Blk.ne_ bz bj (by decide)) (.slice A' 1 c')
      replace o9 := o9.kept (grown1 w7 jb 3 (.slice A' 1 c')) (.inr (own_blk_ne o9 bj (by decide)))
      replace bj := bj.set_ 3 (.slice A' 1 c')
      replace K2 := K2.set 3 (.slice A' 1 c')
      refine hK _ _ bz ?_
      clear hK K j0 j1 j2 j3 jf lj hbs
      refine wpW_end (by kernel_rfl) ?_
      intro we hg hS
      unfold NQ
      dsimp only
      replace bj := Blk.gr bj hg
      replace o9 := own_below o9 hg
      replace K2 := K2.gr hg
      refine H.out _ _ _ _ _ _ _ _ A' c' we ?_ o9 K2
      unfold joC
      simpa using bj
    · refine wpOp_go (by rfl) (Eq.refl _) (by go_simp; done) ?_
      intro K hK
      go_simp
      try simp only [Act.put]
      refine hK _ _ bz ?_
      clear hK K
      refine wpW_branch [0] (by kernel_rfl) (by simp) ?_
      intro w3 hg3 hS3
      replace bj := Blk.gr bj hg3
      replace bz := Blk.gr bz hg3
      replace K2 := KeepsTwo.gr K2 hg3
      skip
      replace hbs := Nat.le_trans hbs (Below.size hg3)
      replace bn := Blk.gr bn hg3
      refine each_cons ?_ (each_nil)
      refine wpOp_go (by rfl) (Eq.refl _) (by go_simp; done) ?_
      intro K hK
      go_simp
      try simp only [Act.put]
      try (have nne : some gn ≠ (Value.slice (some ⟨w3.heap.size, 0, none⟩) 0 0).ownBlock := fun e => by have h1 := bn.lt; simp [Value.ownBlock] at e; omega)
      have hal : Gr w3 (w3.alloc (.cells #[] 83)) := (Below.refl _ _).alloc (Nat.le_refl _) _
      have o3 : (w3.alloc (.cells #[] 83)).ownsRow base 83 5 (.slice (some ⟨w3.heap.size, 0, none⟩) 0 0) 0 [] := by
        have h := World.ownsRow_made (base := base) (e := 83) (size := 5) w3 #[] 0 hbs (by decide) rfl
        simpa using h
      replace bj := Blk.gr bj hal
      replace bz := Blk.gr bz hal
      replace K2 := KeepsTwo.gr K2 hal
      replace hbs := Nat.le_trans hbs (Below.size hal)
      try replace bn := Blk.gr bn hal
      clear hal
      try clear j0 j1 j2 j3 jf lj
      generalize w3.heap.size = ge at *
      refine hK _ _ bz ?_
      clear hK K
      refine wpW_branch [3] (by kernel_rfl) (by simp) ?_
      intro w4 hg4 hS4
      replace bj := Blk.gr bj hg4
      replace bz := Blk.gr bz hg4
      replace K2 := KeepsTwo.gr K2 hg4
      skip
      replace hbs := Nat.le_trans hbs (Below.size hg4)
      replace o3 := own_below o3 hg4
      replace bn := Blk.gr bn hg4
      refine each_cons ?_ (each_nil)
      refine wpOp_go (by rfl) (Eq.refl _) (by go_simp; done) ?_
      intro K hK
      refine wp_append_none _ (.tmp 103) (.tmp 105) 22 rfl base 83 i0 5 Tryz.underlying22 hi _ 0 [] rfl o3 rfl ?_
      have o6 := o3
      clear o3
      try simp only [Act.put]
      try simp only [List.setIfInBounds_toArray]
      refine hK _ _ bz ?_
      clear hK K
      refine wpW_branch [6] (by kernel_rfl) (by simp) ?_
      intro w5 hg5 hS5
      replace bj := Blk.gr bj hg5
      replace bz := Blk.gr bz hg5
      replace K2 := KeepsTwo.gr K2 hg5
      replace hbs := Nat.le_trans hbs (Below.size hg5)
      replace o6 := own_below o6 hg5
      replace bn := Blk.gr bn hg5
      refine each_cons ?_ (each_nil)
      refine wpOp_go (by rfl) (Eq.refl _) (by go_simp; done) ?_
      intro K hK
      refine wp_append_at _ (.tmp 106) (.tmp 108) 22 rfl base 83 i0 _ 5 48 Tryz.underlying22 hi iz0 iz1 iz2 rfl (by decide) _ 0 [] rfl o6 ⟨gn, 0, none⟩ 1 1 [.string nm, .int .i64 n2, .int .i64 n3, .int .i64 n4, .int .i64 n5] rfl rfl ?hc (by simp [Value.oneCell']) (by unfold maxLen; omega) (by omega) hbs ?_
      case hc =>
        intro j u hj
        rw [Addr.add_lit, Nat.zero_add]
        exact (bn.cell j).trans (by simpa using hj)
      intro u12 wa hown' hgrow hat
      have hob := fun q e => (o6.lt q e).1
      replace bj := bj.grown hgrow (fun e => by have := hob _ e.symm; omega)
      replace bz := bz.grown hgrow (fun e => by have := hob _ e.symm; omega)
      replace K2 := K2.app hgrow hob HBS.out
      replace hbs := Nat.le_trans hbs hgrow.size
      have o9 : wa.ownsRow base 83 5 u12 1 (fcsC ([(nm, ⟨n2, n3, n4, n5⟩)])) := by simpa [fcsC] using hown'
      clear hown' hgrow hat hob
      obtain ⟨A', c', hv, _⟩ := Row.own o9
      subst hv
      clear o6 bn
      try clear j0 j1 j2 j3 jf lj
      try clear o3
      try clear R
      try simp only [Act.put]
      try simp only [List.setIfInBounds_toArray]
      refine hK _ _ bz ?_
      clear hK K
      refine wpW_branch [7] (by kernel_rfl) (by simp) ?_
      intro w6 hg6 hS6
      replace bj := Blk.gr bj hg6
      replace bz := Blk.gr bz hg6
      replace K2 := KeepsTwo.gr K2 hg6
      replace hbs := Nat.le_trans hbs (Below.size hg6)
      replace o9 := own_below o9 hg6
      refine each_cons ?_ (each_nil)
      refine wpOp_go (by rfl) (Eq.refl _) (by go_simp; done) ?_
      intro K hK
      go_simp
      try simp only [Act.put]
      refine hK _ _ bz ?_
      clear hK K
      refine wpW_branch [8] (by kernel_rfl) (by simp) ?_
      intro w7 hg7 hS7
      replace bj := Blk.gr bj hg7
      replace bz := Blk.gr bz hg7
      replace K2 := KeepsTwo.gr K2 hg7
      replace hbs := Nat.le_trans hbs (Below.size hg7)
      try clear j0 j1 j2 j3 jf lj
      obtain ⟨j0, j1, j2, j3, jf⟩ := blk4 bj
      have lj := bj.lt
      replace o9 := own_below o9 hg7
      refine each_cons ?_ (each_nil)
      refine wpOp_go (by rfl) (Eq.refl _) (by go_simp; done) ?_
      intro K hK
      go_simp
      try simp only [Act.put]
      replace bz := bz.far (p := ⟨jb, 3, none⟩) (Blk.ne_ bz bj (by decide)) (.slice A' 1 c')
      replace o9 := o9.kept (grown1 w7 jb 3 (.slice A' 1 c')) (.inr (own_blk_ne o9 bj (by decide)))
      replace bj := bj.set_ 3 (.slice A' 1 c')
      replace K2 := K2.set 3 (.slice A' 1 c')
      refine hK _ _ bz ?_
      clear hK K j0 j1 j2 j3 jf lj hbs
      refine wpW_end (by kernel_rfl) ?_
      intro we hg hS
      unfold NQ
      dsimp only
      replace bj := Blk.gr bj hg
      replace o9 := own_below o9 hg
      replace K2 := K2.gr hg
      refine H.out _ _ _ _ _ _ _ _ A' c' we ?_ o9 K2
      unfold joC
      simpa using bj
end Go.Proofs.YtaekcfancfoccaaGreatDoor
