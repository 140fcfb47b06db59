/- TopEveryPointMet: the regions that call. Contract of the law TopEveryPointMet: true. -/
import Derived.Test.YtfbnpfhnffahdaaGreatDoorCyE
namespace Go.Proofs.YtfbnpfhnffahdaaGreatDoor
open Go.RowKit

/-- What CheckPlan answers, as numbers. -/
def CPr (nf n : Nat) (P : Nat → List GP) (i a b c d er : Int) : Prop :=
  (∃ k : Nat, k < nf ∧ i = k ∧ er = 14 ∧ GapOf (P k) n ((a, b, c, d), true)) ∨ (er = 0 ∧ ∀ k, k < nf → ∃ r, GapOf (P k) n (r, false))
theorem CPlan.form {nf n : Nat} {P : Nat → List GP} {e : Ending} (h : CPlan nf n P e) : ∃ i a b c d er : Int, e = .returned (.tuple #[.int .i64 i, .agg #[.int .i64 a, .int .i64 b, .int .i64 c, .int .i64 d], .int .i64 er]) ∧ CPr nf n P i a b c d er := by
  rcases h with ⟨k, a, b, c, d, hk, hg, rfl⟩ | ⟨hg, rfl⟩
  · exact ⟨k, a, b, c, d, 14, rfl, .inl ⟨k, hk, rfl, rfl, hg⟩⟩
  · exact ⟨0, 0, 0, 0, 0, 0, rfl, .inr ⟨rfl, hg⟩⟩
/-- Copied set-ups. -/
theorem copiedS {l : List (ByteArray × Su)} {A : Option Addr} {c B : Nat} {w w' : World} {v : Value} (hs : SuOk l A c B w) (own : w'.ownsRow w.heap.size 44 10 v l.length (sucsC l)) :
    ∃ A3 c3, v = .slice A3 l.length c3 ∧ SuOk l A3 c3 w'.heap.size w' := by
  obtain ⟨A3, c3, hv3, hn3, _⟩ := own_shape own
  subst hv3
  have hc3 := own_caps own
  obtain ⟨A3', c3', hv3, hR3⟩ := Row.own own
  simp only [Value.slice.injEq, true_and] at hv3
  obtain ⟨rfl, rfl⟩ := hv3
  exact ⟨A3, c3, rfl, ⟨hs.nm, hs.wf, hn3, hc3.1, hR3, Nat.le_refl _⟩⟩

set_option maxRecDepth 100000 in
set_option maxHeartbeats 8000000 in
/-- The plan is checked (region 5). -/
theorem planReg5 (j : Jo) (l : List (ByteArray × Su)) (P : Nat → List GP) (A : Option Addr) (c B : Nat) (A' : Option Addr) (c' : Nat) (w : World) (hj : JoOk j A c B w) (hs : SuOk l A' c' B w) (hE : Ends w) (hA : A = none → c = 0) (hA' : A' = none → c' = 0) (h0 : (jointE j).2 = 0) (h1 : setupsE l = 0)
    (hP : ∀ i, i < j.fs.length → (P i).map Subtype.val = partsV j i l ∧ (P i).length = l.length) (pb : Nat) (b : Blk w pb 91 (plC j A c A' c' l.length)) {t0 t1 t2 t4 t5 t6 t7 t8 t9 t10 t11 t12 t13 t14 t15 t16 t17 t18 t19 t20 t21 t22 t23 t24 t25 t26 t27 t28 t29 t30 t31 t32 t33 t34 t35 t36 t37 t38 t39 t40 t41 t42 t43 t44 t45 t46 t47 t48 t49 t50 t51 t52 t53 t54 t55 t56 t57 t58 t59 t60 t61 t62 t63 t64 t65 t66 t67 t68 t69 t70 t71 t72 t73 t74 t75 t76 t77 t78 t79 t80 t81 t82 t83 t84 t85 t86 t87 t88 t89 t90 t91 t92 t93 t94 t95 t96 t97 t98 t99 t100 t101 t102 t103 t104 t105 t106 t107 t108 t109 t110 t111 t112 t113 t114 t115 t116 t117 t118 t119 t120 t121 t122 t123 t124 t125 t126 t127 t128 t129 t130 t131 t132 t133 t134 t135 t136 t137 t138 t139 t140 t141 t142 t143 t144 t145 t146 t147 t148 t149 t150 t151 t152 t153 t154 t155 t156 t157 t158 t159 t160 t161 t162 t163 t164 t165 t166 t167 t168 t169 t170 t171 t172 t173 t174 t175 t176 t177 t178 t179 t180 t181 t182 t183 t184 t185 t186 t187 : Value} {ds : List Deferred} (K' : Act → World → Prop) (Q' : Exit → Act → World → Prop)
    (h : ∀ (i a b c d er : Int) (p : Nat) (t38 t39 t40 t41 t42 t43 t44 t45 t46 t47 t48 : Value) (w' : World), CPr j.fs.length l.length P i a b c d er → Blk w' p 51 #[.int .i64 a, .int .i64 b, .int .i64 c, .int .i64 d] → w.heap.size ≤ p → Below w.heap.size w w' → K' ⟨#[t0, t1, t2, .pointer (some ⟨pb, 0, none⟩), t4, t5, t6, .int .i64 i, .pointer (some ⟨p, 0, none⟩), .int .i64 er, t10, t11, t12, t13, t14, t15, t16, t17, t18, t19, t20, t21, t22, t23, t24, t25, t26, t27, t28, t29, t30, t31, t32, t33, t34, t35, t36, t37, t38, t39, t40, t41, t42, t43, t44, t45, t46, t47, t48, t49, t50, t51, t52, t53, t54, t55, t56, t57, t58, t59, t60, t61, t62, t63, t64, t65, t66, t67, t68, t69, t70, t71, t72, t73, t74, t75, t76, t77, t78, t79, t80, t81, t82, t83, t84, t85, t86, t87, t88, t89, t90, t91, t92, t93, t94, t95, t96, t97, t98, t99, t100, t101, t102, t103, t104, t105, t106, t107, t108, t109, t110, t111, t112, t113, t114, t115, t116, t117, t118, t119, t120, t121, t122, t123, t124, t125, t126, t127, t128, t129, t130, t131, t132, t133, t134, t135, t136, t137, t138, t139, t140, t141, t142, t143, t144, t145, t146, t147, t148, t149, t150, t151, t152, t153, t154, t155, t156, t157, t158, t159, t160, t161, t162, t163, t164, t165, t166, t167, t168, t169, t170, t171, t172, t173, t174, t175, t176, t177, t178, t179, t180, t181, t182, t183, t184, t185, t186, t187], ds⟩ w') :
    (regOf Tryz.f9 5).wp Tryz.prog (Exit.then K' Q') ⟨#[t0, t1, t2, .pointer (some ⟨pb, 0, none⟩), t4, t5, t6, t7, t8, t9, t10, t11, t12, t13, t14, t15, t16, t17, t18, t19, t20, t21, t22, t23, t24, t25, t26, t27, t28, t29, t30, t31, t32, t33, t34, t35, t36, t37, t38, t39, t40, t41, t42, t43, t44, t45, t46, t47, t48, t49, t50, t51, t52, t53, t54, t55, t56, t57, t58, t59, t60, t61, t62, t63, t64, t65, t66, t67, t68, t69, t70, t71, t72, t73, t74, t75, t76, t77, t78, t79, t80, t81, t82, t83, t84, t85, t86, t87, t88, t89, t90, t91, t92, t93, t94, t95, t96, t97, t98, t99, t100, t101, t102, t103, t104, t105, t106, t107, t108, t109, t110, t111, t112, t113, t114, t115, t116, t117, t118, t119, t120, t121, t122, t123, t124, t125, t126, t127, t128, t129, t130, t131, t132, t133, t134, t135, t136, t137, t138, t139, t140, t141, t142, t143, t144, t145, t146, t147, t148, t149, t150, t151, t152, t153, t154, t155, t156, t157, t158, t159, t160, t161, t162, t163, t164, t165, t166, t167, t168, t169, t170, t171, t172, t173, t174, t175, t176, t177, t178, t179, t180, t181, t182, t183, t184, t185, t186, t187], ds⟩ w := by
  have HJ : Hid (∀ W, Below w.heap.size w W → JoOk j A c B W) := Lib.hid fun W h => hj.below h hj.base
  have HS : Hid (∀ W, Below w.heap.size w W → SuOk l A' c' B W) := Lib.hid fun W h => hs.below h hs.base
  have HE : Hid (∀ W, Below w.heap.size w W → Ends W) := Lib.hid fun W h => hE.below h
  have hlen := (jointE_zero h0).2.2.2.2.1
  have hll := (setupsE_zero h1).1
  have H0 := Lib.hid h0; have H1 := Lib.hid h1; have HP := Lib.hid hP
  have H := Lib.hid h
  have HA := Lib.hid hA; have HA' := Lib.hid hA'
  clear h hj hs hE hA hA' h0 h1 hP
  unfold plC at b
  obtain ⟨t0, t1, t2, t3, t4⟩ := pl_cells b
  have lb := b.lt
  conv in (regOf _ _) => whnf
  refine wp_region_w (Gr _) (by kernel_rfl) (Below.refl _ _).drew ?_
  refine wpW_det (t' := ?ct0R5) 0 (by rfl) (by kernel_rfl) (NQ_free _) (by kernel_rfl) ?cw0R5 ?ch0R5 ?ca0R5 (Eq.refl _) ?cH0R5
  case cw0R5 => (go_simp; done)
  case ch0R5 =>
    intro ds w' hS K hK
    have hc := (bcell hS).1
    have hf := (bcell hS).2
    have hz := hS.size
    try simp at hz
    go_simp
    try go_bits
    first
      | exact hK _ hS (Gr.refl _)
      | exact hK _ (by repeat (first | (with_reducible exact Below.refl _ _) | (with_reducible assumption) | ((with_reducible refine Below.setCell ?_ ?_ _); rotate_left; · (first | exact Nat.le_refl _ | (simp; done) | (simp; omega) | omega)) | ((with_reducible refine Below.alloc ?_ ?_ _); rotate_left; · (first | exact Nat.le_refl _ | (simp; done) | (simp; omega) | omega)) | (with_reducible apply Below.drew) | (with_reducible apply below_drewN') | (refine Below.trans ?_ (Below.mono (by assumption) (by first | exact Nat.le_refl _ | (simp; done) | (simp; omega) | omega))) | exact Below.refl _ _ | assumption)) (by repeat (first | (with_reducible exact Below.refl _ _) | (with_reducible assumption) | ((with_reducible refine Below.setCell ?_ ?_ _); rotate_left; · (first | exact Nat.le_refl _ | (simp; done) | (simp; omega) | omega)) | ((with_reducible refine Below.alloc ?_ ?_ _); rotate_left; · (first | exact Nat.le_refl _ | (simp; done) | (simp; omega) | omega)) | (with_reducible apply Below.drew) | (with_reducible apply below_drewN') | (refine Below.trans ?_ (Below.mono (by assumption) (by first | exact Nat.le_refl _ | (simp; done) | (simp; omega) | omega))) | exact Below.refl _ _ | assumption))
  case ca0R5 => (first | (simp [Act.put]; done) | (simp [Act.put, *]; done))
  try dsimp only
  refine wpW_det (t' := ?ct1R5) 1 (by rfl) (by kernel_rfl) (NQ_free _) (by kernel_rfl) ?cw1R5 ?ch1R5 ?ca1R5 (Eq.refl _) ?cH1R5
  case cw1R5 => (go_simp; done)
  case ch1R5 =>
    intro ds w' hS K hK
    have hc := (bcell hS).1
    have hf := (bcell hS).2
    have hz := hS.size
    try simp at hz
    go_simp
    try go_bits
    first
      | exact hK _ hS (Gr.refl _)
      | exact hK _ (by repeat (first | (with_reducible exact Below.refl _ _) | (with_reducible assumption) | ((with_reducible refine Below.setCell ?_ ?_ _); rotate_left; · (first | exact Nat.le_refl _ | (simp; done) | (simp; omega) | omega)) | ((with_reducible refine Below.alloc ?_ ?_ _); rotate_left; · (first | exact Nat.le_refl _ | (simp; done) | (simp; omega) | omega)) | (with_reducible apply Below.drew) | (with_reducible apply below_drewN') | (refine Below.trans ?_ (Below.mono (by assumption) (by first | exact Nat.le_refl _ | (simp; done) | (simp; omega) | omega))) | exact Below.refl _ _ | assumption)) (by repeat (first | (with_reducible exact Below.refl _ _) | (with_reducible assumption) | ((with_reducible refine Below.setCell ?_ ?_ _); rotate_left; · (first | exact Nat.le_refl _ | (simp; done) | (simp; omega) | omega)) | ((with_reducible refine Below.alloc ?_ ?_ _); rotate_left; · (first | exact Nat.le_refl _ | (simp; done) | (simp; omega) | omega)) | (with_reducible apply Below.drew) | (with_reducible apply below_drewN') | (refine Below.trans ?_ (Below.mono (by assumption) (by first | exact Nat.le_refl _ | (simp; done) | (simp; omega) | omega))) | exact Below.refl _ _ | assumption))
  case ca1R5 => (first | (simp [Act.put]; done) | (simp [Act.put, *]; done))
  try dsimp only
  refine wpW_det (t' := ?ct3R5) 3 (by rfl) (by kernel_rfl) (NQ_free _) (by kernel_rfl) ?cw3R5 ?ch3R5 ?ca3R5 (Eq.refl _) ?cH3R5
  case cw3R5 => (go_simp; done)
  case ch3R5 =>
    intro ds w' hS K hK
    have hc := (bcell hS).1
    have hf := (bcell hS).2
    have hz := hS.size
    try simp at hz
    go_simp
    try go_bits
    first
      | exact hK _ hS (Gr.refl _)
      | exact hK _ (by repeat (first | (with_reducible exact Below.refl _ _) | (with_reducible assumption) | ((with_reducible refine Below.setCell ?_ ?_ _); rotate_left; · (first | exact Nat.le_refl _ | (simp; done) | (simp; omega) | omega)) | ((with_reducible refine Below.alloc ?_ ?_ _); rotate_left; · (first | exact Nat.le_refl _ | (simp; done) | (simp; omega) | omega)) | (with_reducible apply Below.drew) | (with_reducible apply below_drewN') | (refine Below.trans ?_ (Below.mono (by assumption) (by first | exact Nat.le_refl _ | (simp; done) | (simp; omega) | omega))) | exact Below.refl _ _ | assumption)) (by repeat (first | (with_reducible exact Below.refl _ _) | (with_reducible assumption) | ((with_reducible refine Below.setCell ?_ ?_ _); rotate_left; · (first | exact Nat.le_refl _ | (simp; done) | (simp; omega) | omega)) | ((with_reducible refine Below.alloc ?_ ?_ _); rotate_left; · (first | exact Nat.le_refl _ | (simp; done) | (simp; omega) | omega)) | (with_reducible apply Below.drew) | (with_reducible apply below_drewN') | (refine Below.trans ?_ (Below.mono (by assumption) (by first | exact Nat.le_refl _ | (simp; done) | (simp; omega) | omega))) | exact Below.refl _ _ | assumption))
  case ca3R5 => (first | (simp [Act.put]; done) | (simp [Act.put, *]; done))
  try dsimp only
  refine wpW_det (t' := ?ct4R5) 4 (by rfl) (by kernel_rfl) (NQ_free _) (by kernel_rfl) ?cw4R5 ?ch4R5 ?ca4R5 (Eq.refl _) ?cH4R5
  case cw4R5 => (go_simp; done)
  case ch4R5 =>
    intro ds w' hS K hK
    have hc := (bcell hS).1
    have hf := (bcell hS).2
    have hz := hS.size
    try simp at hz
    go_simp
    try go_bits
    first
      | exact hK _ hS (Gr.refl _)
      | exact hK _ (by repeat (first | (with_reducible exact Below.refl _ _) | (with_reducible assumption) | ((with_reducible refine Below.setCell ?_ ?_ _); rotate_left; · (first | exact Nat.le_refl _ | (simp; done) | (simp; omega) | omega)) | ((with_reducible refine Below.alloc ?_ ?_ _); rotate_left; · (first | exact Nat.le_refl _ | (simp; done) | (simp; omega) | omega)) | (with_reducible apply Below.drew) | (with_reducible apply below_drewN') | (refine Below.trans ?_ (Below.mono (by assumption) (by first | exact Nat.le_refl _ | (simp; done) | (simp; omega) | omega))) | exact Below.refl _ _ | assumption)) (by repeat (first | (with_reducible exact Below.refl _ _) | (with_reducible assumption) | ((with_reducible refine Below.setCell ?_ ?_ _); rotate_left; · (first | exact Nat.le_refl _ | (simp; done) | (simp; omega) | omega)) | ((with_reducible refine Below.alloc ?_ ?_ _); rotate_left; · (first | exact Nat.le_refl _ | (simp; done) | (simp; omega) | omega)) | (with_reducible apply Below.drew) | (with_reducible apply below_drewN') | (refine Below.trans ?_ (Below.mono (by assumption) (by first | exact Nat.le_refl _ | (simp; done) | (simp; omega) | omega))) | exact Below.refl _ _ | assumption))
  case ca4R5 => (first | (simp [Act.put]; done) | (simp [Act.put, *]; done))
  try dsimp only
  refine wpW_branch [2, 11] (by kernel_rfl) (by simp) ?_
  intro w1 hg1 hS1
  try have z := Blk.gr z hg1
  try have hj6 := hj6.below hg1 hj6.base
  try have hs6 := hs6.below hg1 hs6.base
  try (have zz := blk4 z; obtain ⟨z0, z1, z2, z3, zf⟩ := zz)
  try have lz := z.lt
  refine each_cons ?_ (each_cons ?_ (each_nil))
  · refine wpOp_go (by rfl) (Eq.refl _) (by go_simp; done) ?_
    intro K hK
    go_simp
    try simp only [Act.put]
    have hj5 := HJ.out _ hS1
    refine (copyJoint_any j A c B _ hj5 HA.out (by omega)).mono ?_
    rintro e w6 ⟨v, rfl, own6, hB6⟩
    obtain ⟨A6, c6, rfl, hj6, hA6⟩ := copied hj5 own6
    try have z := Blk.gr z hB6
    refine hK _ _ (Below.trans hS1 (hB6.mono (Below.size hS1))) ?_
    clear hK K own6 hj5
    refine wpW_branch [5, 11] (by kernel_rfl) (by simp) ?_
    intro w2 hg2 hS2
    try have z := Blk.gr z hg2
    try have hj6 := hj6.below hg2 hj6.base
    try have hs6 := hs6.below hg2 hs6.base
    try (have zz := blk4 z; obtain ⟨z0, z1, z2, z3, zf⟩ := zz)
    try have lz := z.lt
    refine each_cons ?_ (each_cons ?_ (each_nil))
    · refine wpOp_go (by rfl) (Eq.refl _) (by go_simp; done) ?_
      intro K hK
      go_simp
      try simp only [Act.put]
      have hs5 := HS.out _ hS2
      refine (copySetups_any l A' c' B _ hs5 HA'.out (by omega)).mono ?_
      rintro e w6 ⟨v, rfl, own6, hB6⟩
      obtain ⟨A7, c7, rfl, hs6⟩ := copiedS hs5 own6
      try have z := Blk.gr z hB6
      have hj6 := (hj6.below hB6 hj6.base).more (Nat.le_trans hj6.base (Below.size hB6)) (Nat.le_refl _)
      refine hK _ _ (Below.trans hS2 (hB6.mono (Below.size hS2))) ?_
      clear hK K own6 hs5
      refine wpW_branch [6, 11] (by kernel_rfl) (by simp) ?_
      intro w3 hg3 hS3
      try have z := Blk.gr z hg3
      try have hj6 := hj6.below hg3 hj6.base
      try have hs6 := hs6.below hg3 hs6.base
      try (have zz := blk4 z; obtain ⟨z0, z1, z2, z3, zf⟩ := zz)
      try have lz := z.lt
      refine each_cons ?_ (each_cons ?_ (each_nil))
      · refine wpOp_go (by rfl) (Eq.refl _) (by go_simp; done) ?_
        intro K hK
        go_simp
        try simp only [Act.put]
        refine (checkPlan_ok j l P A6 c6 _ A7 c7 _ hj6 hs6 (HE.out _ hS3) H0.out H1.out HP.out).mono ?_
        rintro e w8 ⟨hcp, hB8⟩
        obtain ⟨i, ra, rb, rc, rd, er, rfl, hcr⟩ := hcp.form
        try have z := Blk.gr z hB8
        refine hK _ _ (Below.trans hS3 (hB8.mono (Below.size hS3))) ?_
        clear hK K hj6 hs6
        refine wpW_det (t' := ?ct7R6) 7 (by rfl) (by kernel_rfl) (NQ_free _) (by kernel_rfl) ?cw7R6 ?ch7R6 ?ca7R6 (Eq.refl _) ?cH7R6
        case cw7R6 => (go_simp; done)
        case ch7R6 =>
          intro ds w' hS K hK
          have hc := (bcell hS).1
          have hf := (bcell hS).2
          have hz := hS.size
          try simp at hz
          go_simp
          try go_bits
          first
            | exact hK _ hS (Gr.refl _)
            | exact hK _ (by repeat (first | (with_reducible exact Below.refl _ _) | (with_reducible assumption) | ((with_reducible refine Below.setCell ?_ ?_ _); rotate_left; · (first | exact Nat.le_refl _ | (simp; done) | (simp; omega) | omega)) | ((with_reducible refine Below.alloc ?_ ?_ _); rotate_left; · (first | exact Nat.le_refl _ | (simp; done) | (simp; omega) | omega)) | (with_reducible apply Below.drew) | (with_reducible apply below_drewN') | (refine Below.trans ?_ (Below.mono (by assumption) (by first | exact Nat.le_refl _ | (simp; done) | (simp; omega) | omega))) | exact Below.refl _ _ | assumption)) (by repeat (first | (with_reducible exact Below.refl _ _) | (with_reducible assumption) | ((with_reducible refine Below.setCell ?_ ?_ _); rotate_left; · (first | exact Nat.le_refl _ | (simp; done) | (simp; omega) | omega)) | ((with_reducible refine Below.alloc ?_ ?_ _); rotate_left; · (first | exact Nat.le_refl _ | (simp; done) | (simp; omega) | omega)) | (with_reducible apply Below.drew) | (with_reducible apply below_drewN') | (refine Below.trans ?_ (Below.mono (by assumption) (by first | exact Nat.le_refl _ | (simp; done) | (simp; omega) | omega))) | exact Below.refl _ _ | assumption))
        case ca7R6 => (first | (simp [Act.put]; done) | (simp [Act.put, *]; done))
        try dsimp only
        refine wpW_det (t' := ?ct8R6) 8 (by rfl) (by kernel_rfl) (NQ_free _) (by kernel_rfl) ?cw8R6 ?ch8R6 ?ca8R6 (Eq.refl _) ?cH8R6
        case cw8R6 => (go_simp; done)
        case ch8R6 =>
          intro ds w' hS K hK
          have hc := (bcell hS).1
          have hf := (bcell hS).2
          have hz := hS.size
          try simp at hz
          go_simp
          try go_bits
          first
            | exact hK _ hS (Gr.refl _)
            | exact hK _ (by repeat (first | (with_reducible exact Below.refl _ _) | (with_reducible assumption) | ((with_reducible refine Below.setCell ?_ ?_ _); rotate_left; · (first | exact Nat.le_refl _ | (simp; done) | (simp; omega) | omega)) | ((with_reducible refine Below.alloc ?_ ?_ _); rotate_left; · (first | exact Nat.le_refl _ | (simp; done) | (simp; omega) | omega)) | (with_reducible apply Below.drew) | (with_reducible apply below_drewN') | (refine Below.trans ?_ (Below.mono (by assumption) (by first | exact Nat.le_refl _ | (simp; done) | (simp; omega) | omega))) | exact Below.refl _ _ | assumption)) (by repeat (first | (with_reducible exact Below.refl _ _) | (with_reducible assumption) | ((with_reducible refine Below.setCell ?_ ?_ _); rotate_left; · (first | exact Nat.le_refl _ | (simp; done) | (simp; omega) | omega)) | ((with_reducible refine Below.alloc ?_ ?_ _); rotate_left; · (first | exact Nat.le_refl _ | (simp; done) | (simp; omega) | omega)) | (with_reducible apply Below.drew) | (with_reducible apply below_drewN') | (refine Below.trans ?_ (Below.mono (by assumption) (by first | exact Nat.le_refl _ | (simp; done) | (simp; omega) | omega))) | exact Below.refl _ _ | assumption))
        case ca8R6 => (first | (simp [Act.put]; done) | (simp [Act.put, *]; done))
        try dsimp only
        refine wpW_det (t' := ?ct9R6) 9 (by rfl) (by kernel_rfl) (NQ_free _) (by kernel_rfl) ?cw9R6 ?ch9R6 ?ca9R6 (Eq.refl _) ?cH9R6
        case cw9R6 => (go_simp; done)
        case ch9R6 =>
          intro ds w' hS K hK
          have hc := (bcell hS).1
          have hf := (bcell hS).2
          have hz := hS.size
          try simp at hz
          go_simp
          try go_bits
          first
            | exact hK _ hS (Gr.refl _)
            | exact hK _ (by repeat (first | (with_reducible exact Below.refl _ _) | (with_reducible assumption) | ((with_reducible refine Below.setCell ?_ ?_ _); rotate_left; · (first | exact Nat.le_refl _ | (simp; done) | (simp; omega) | omega)) | ((with_reducible refine Below.alloc ?_ ?_ _); rotate_left; · (first | exact Nat.le_refl _ | (simp; done) | (simp; omega) | omega)) | (with_reducible apply Below.drew) | (with_reducible apply below_drewN') | (refine Below.trans ?_ (Below.mono (by assumption) (by first | exact Nat.le_refl _ | (simp; done) | (simp; omega) | omega))) | exact Below.refl _ _ | assumption)) (by repeat (first | (with_reducible exact Below.refl _ _) | (with_reducible assumption) | ((with_reducible refine Below.setCell ?_ ?_ _); rotate_left; · (first | exact Nat.le_refl _ | (simp; done) | (simp; omega) | omega)) | ((with_reducible refine Below.alloc ?_ ?_ _); rotate_left; · (first | exact Nat.le_refl _ | (simp; done) | (simp; omega) | omega)) | (with_reducible apply Below.drew) | (with_reducible apply below_drewN') | (refine Below.trans ?_ (Below.mono (by assumption) (by first | exact Nat.le_refl _ | (simp; done) | (simp; omega) | omega))) | exact Below.refl _ _ | assumption))
        case ca9R6 => (first | (simp [Act.put]; done) | (simp [Act.put, *]; done))
        try dsimp only
        refine wpW_det (t' := ?ct10R6) 10 (by rfl) (by kernel_rfl) (NQ_free _) (by kernel_rfl) ?cw10R6 ?ch10R6 ?ca10R6 (Eq.refl _) ?cH10R6
        case cw10R6 => (go_simp; done)
        case ch10R6 =>
          intro ds w' hS K hK
          have hc := (bcell hS).1
          have hf := (bcell hS).2
          have hz := hS.size
          try simp at hz
          go_simp
          try go_bits
          first
            | exact hK _ hS (Gr.refl _)
            | exact hK _ (by repeat (first | (with_reducible exact Below.refl _ _) | (with_reducible assumption) | ((with_reducible refine Below.setCell ?_ ?_ _); rotate_left; · (first | exact Nat.le_refl _ | (simp; done) | (simp; omega) | omega)) | ((with_reducible refine Below.alloc ?_ ?_ _); rotate_left; · (first | exact Nat.le_refl _ | (simp; done) | (simp; omega) | omega)) | (with_reducible apply Below.drew) | (with_reducible apply below_drewN') | (refine Below.trans ?_ (Below.mono (by assumption) (by first | exact Nat.le_refl _ | (simp; done) | (simp; omega) | omega))) | exact Below.refl _ _ | assumption)) (by repeat (first | (with_reducible exact Below.refl _ _) | (with_reducible assumption) | ((with_reducible refine Below.setCell ?_ ?_ _); rotate_left; · (first | exact Nat.le_refl _ | (simp; done) | (simp; omega) | omega)) | ((with_reducible refine Below.alloc ?_ ?_ _); rotate_left; · (first | exact Nat.le_refl _ | (simp; done) | (simp; omega) | omega)) | (with_reducible apply Below.drew) | (with_reducible apply below_drewN') | (refine Below.trans ?_ (Below.mono (by assumption) (by first | exact Nat.le_refl _ | (simp; done) | (simp; omega) | omega))) | exact Below.refl _ _ | assumption))
        case ca10R6 => (first | (simp [Act.put]; done) | (simp [Act.put, *]; done))
        try dsimp only
        refine wpW_branch [11] (by kernel_rfl) (by simp) ?_
        intro w4 hg4 hS4
        try have z := Blk.gr z hg4
        try have hj6 := hj6.below hg4 hj6.base
        try have hs6 := hs6.below hg4 hs6.base
        try (have zz := blk4 z; obtain ⟨z0, z1, z2, z3, zf⟩ := zz)
        try have lz := z.lt
        refine each_cons ?_ (each_nil)
        · refine wpOp_go (by rfl) (Eq.refl _) (by go_simp; done) ?_
          intro K hK
          go_simp
          try simp only [Act.put]
          have z := Blk.new w4 51 #[.int .i64 0, .int .i64 0, .int .i64 0, .int .i64 0]
          have hzp := Below.size hS4
          try have hj6 := hj6.below ((Below.refl w4.heap.size w4).alloc (Nat.le_refl _) (.cells #[.int .i64 0, .int .i64 0, .int .i64 0, .int .i64 0] 51 (0, 0))) hj6.base
          try have hs6 := hs6.below ((Below.refl w4.heap.size w4).alloc (Nat.le_refl _) (.cells #[.int .i64 0, .int .i64 0, .int .i64 0, .int .i64 0] 51 (0, 0))) hs6.base
          refine hK _ _ (Below.alloc hS4 (Below.size hS4) _) ?_
          clear hK K
          refine wpW_branch [12] (by kernel_rfl) (by simp) ?_
          intro w5 hg5 hS5
          try have z := Blk.gr z hg5
          try have hj6 := hj6.below hg5 hj6.base
          try have hs6 := hs6.below hg5 hs6.base
          try (have zz := blk4 z; obtain ⟨z0, z1, z2, z3, zf⟩ := zz)
          try have lz := z.lt
          refine each_cons ?_ (each_nil)
          · refine wpOp_go (by rfl) (Eq.refl _) (by go_simp; done) ?_
            intro K hK
            go_simp
            try simp only [Act.put]
            refine hK _ _ hS5 ?_
            clear hK K
            refine wpW_branch [13] (by kernel_rfl) (by simp) ?_
            intro w6 hg6 hS6
            try have z := Blk.gr z hg6
            try have hj6 := hj6.below hg6 hj6.base
            try have hs6 := hs6.below hg6 hs6.base
            try (have zz := blk4 z; obtain ⟨z0, z1, z2, z3, zf⟩ := zz)
            try have lz := z.lt
            refine each_cons ?_ (each_nil)
            · refine wpOp_go (by rfl) (Eq.refl _) (by go_simp; done) ?_
              intro K hK
              go_simp
              try simp only [Act.put]
              have z := Blk.set4 z (.int .i64 ra) (.int .i64 rb) (.int .i64 rc) (.int .i64 rd)
              refine hK _ _ (Below.set4 hS6 hzp) ?_
              clear hK K z0 z1 z2 z3 zf
              refine wpW_det (t' := ?ct14R7) 14 (by rfl) (by kernel_rfl) (NQ_free _) (by kernel_rfl) ?cw14R7 ?ch14R7 ?ca14R7 (Eq.refl _) ?cH14R7
              case cw14R7 => (go_simp; done)
              case ch14R7 =>
                intro ds w' hS K hK
                have hc := (bcell hS).1
                have hf := (bcell hS).2
                have hz := hS.size
                try simp at hz
                go_simp
                try go_bits
                first
                  | exact hK _ hS (Gr.refl _)
                  | exact hK _ (by repeat (first | (with_reducible exact Below.refl _ _) | (with_reducible assumption) | ((with_reducible refine Below.setCell ?_ ?_ _); rotate_left; · (first | exact Nat.le_refl _ | (simp; done) | (simp; omega) | omega)) | ((with_reducible refine Below.alloc ?_ ?_ _); rotate_left; · (first | exact Nat.le_refl _ | (simp; done) | (simp; omega) | omega)) | (with_reducible apply Below.drew) | (with_reducible apply below_drewN') | (refine Below.trans ?_ (Below.mono (by assumption) (by first | exact Nat.le_refl _ | (simp; done) | (simp; omega) | omega))) | exact Below.refl _ _ | assumption)) (by repeat (first | (with_reducible exact Below.refl _ _) | (with_reducible assumption) | ((with_reducible refine Below.setCell ?_ ?_ _); rotate_left; · (first | exact Nat.le_refl _ | (simp; done) | (simp; omega) | omega)) | ((with_reducible refine Below.alloc ?_ ?_ _); rotate_left; · (first | exact Nat.le_refl _ | (simp; done) | (simp; omega) | omega)) | (with_reducible apply Below.drew) | (with_reducible apply below_drewN') | (refine Below.trans ?_ (Below.mono (by assumption) (by first | exact Nat.le_refl _ | (simp; done) | (simp; omega) | omega))) | exact Below.refl _ _ | assumption))
              case ca14R7 => (first | (simp [Act.put]; done) | (simp [Act.put, *]; done))
              try dsimp only
              refine wpW_end (by kernel_rfl) ?_
              intro wE hg hS
              unfold NQ
              dsimp only
              have z := z.gr hg
              exact H.out _ _ _ _ _ _ _ _ _ _ _ _ _ _ _ _ _ _ _ hcr z hzp hS
      · refine wpOp_go (by rfl) (Eq.refl _) (by go_simp; done) ?_
        intro K hK
        go_simp
        try simp only [Act.put]
        have z := Blk.new w3 51 #[.int .i64 0, .int .i64 0, .int .i64 0, .int .i64 0]
        have hzp := Below.size hS3
        try have hj6 := hj6.below ((Below.refl w3.heap.size w3).alloc (Nat.le_refl _) (.cells #[.int .i64 0, .int .i64 0, .int .i64 0, .int .i64 0] 51 (0, 0))) hj6.base
        try have hs6 := hs6.below ((Below.refl w3.heap.size w3).alloc (Nat.le_refl _) (.cells #[.int .i64 0, .int .i64 0, .int .i64 0, .int .i64 0] 51 (0, 0))) hs6.base
        refine hK _ _ (Below.alloc hS3 (Below.size hS3) _) ?_
        clear hK K
        refine wpW_branch [6] (by kernel_rfl) (by simp) ?_
        intro w4 hg4 hS4
        try have z := Blk.gr z hg4
        try have hj6 := hj6.below hg4 hj6.base
        try have hs6 := hs6.below hg4 hs6.base
        try (have zz := blk4 z; obtain ⟨z0, z1, z2, z3, zf⟩ := zz)
        try have lz := z.lt
        refine each_cons ?_ (each_nil)
        · refine wpOp_go (by rfl) (Eq.refl _) (by go_simp; done) ?_
          intro K hK
          go_simp
          try simp only [Act.put]
          refine (checkPlan_ok j l P A6 c6 _ A7 c7 _ hj6 hs6 (HE.out _ hS4) H0.out H1.out HP.out).mono ?_
          rintro e w8 ⟨hcp, hB8⟩
          obtain ⟨i, ra, rb, rc, rd, er, rfl, hcr⟩ := hcp.form
          try have z := Blk.gr z hB8
          refine hK _ _ (Below.trans hS4 (hB8.mono (Below.size hS4))) ?_
          clear hK K hj6 hs6
          refine wpW_det (t' := ?ct7R8) 7 (by rfl) (by kernel_rfl) (NQ_free _) (by kernel_rfl) ?cw7R8 ?ch7R8 ?ca7R8 (Eq.refl _) ?cH7R8
          case cw7R8 => (go_simp; done)
          case ch7R8 =>
            intro ds w' hS K hK
            have hc := (bcell hS).1
            have hf := (bcell hS).2
            have hz := hS.size
            try simp at hz
            go_simp
            try go_bits
            first
              | exact hK _ hS (Gr.refl _)
              | exact hK _ (by repeat (first | (with_reducible exact Below.refl _ _) | (with_reducible assumption) | ((with_reducible refine Below.setCell ?_ ?_ _); rotate_left; · (first | exact Nat.le_refl _ | (simp; done) | (simp; omega) | omega)) | ((with_reducible refine Below.alloc ?_ ?_ _); rotate_left; · (first | exact Nat.le_refl _ | (simp; done) | (simp; omega) | omega)) | (with_reducible apply Below.drew) | (with_reducible apply below_drewN') | (refine Below.trans ?_ (Below.mono (by assumption) (by first | exact Nat.le_refl _ | (simp; done) | (simp; omega) | omega))) | exact Below.refl _ _ | assumption)) (by repeat (first | (with_reducible exact Below.refl _ _) | (with_reducible assumption) | ((with_reducible refine Below.setCell ?_ ?_ _); rotate_left; · (first | exact Nat.le_refl _ | (simp; done) | (simp; omega) | omega)) | ((with_reducible refine Below.alloc ?_ ?_ _); rotate_left; · (first | exact Nat.le_refl _ | (simp; done) | (simp; omega) | omega)) | (with_reducible apply Below.drew) | (with_reducible apply below_drewN') | (refine Below.trans ?_ (Below.mono (by assumption) (by first | exact Nat.le_refl _ | (simp; done) | (simp; omega) | omega))) | exact Below.refl _ _ | assumption))
          case ca7R8 => (first | (simp [Act.put]; done) | (simp [Act.put, *]; done))
          try dsimp only
          refine wpW_det (t' := ?ct8R8) 8 (by rfl) (by kernel_rfl) (NQ_free _) (by kernel_rfl) ?cw8R8 ?ch8R8 ?ca8R8 (Eq.refl _) ?cH8R8
          case cw8R8 => (go_simp; done)
          case ch8R8 =>
            intro ds w' hS K hK
            have hc := (bcell hS).1
            have hf := (bcell hS).2
            have hz := hS.size
            try simp at hz
            go_simp
            try go_bits
            first
              | exact hK _ hS (Gr.refl _)
              | exact hK _ (by repeat (first | (with_reducible exact Below.refl _ _) | (with_reducible assumption) | ((with_reducible refine Below.setCell ?_ ?_ _); rotate_left; · (first | exact Nat.le_refl _ | (simp; done) | (simp; omega) | omega)) | ((with_reducible refine Below.alloc ?_ ?_ _); rotate_left; · (first | exact Nat.le_refl _ | (simp; done) | (simp; omega) | omega)) | (with_reducible apply Below.drew) | (with_reducible apply below_drewN') | (refine Below.trans ?_ (Below.mono (by assumption) (by first | exact Nat.le_refl _ | (simp; done) | (simp; omega) | omega))) | exact Below.refl _ _ | assumption)) (by repeat (first | (with_reducible exact Below.refl _ _) | (with_reducible assumption) | ((with_reducible refine Below.setCell ?_ ?_ _); rotate_left; · (first | exact Nat.le_refl _ | (simp; done) | (simp; omega) | omega)) | ((with_reducible refine Below.alloc ?_ ?_ _); rotate_left; · (first | exact Nat.le_refl _ | (simp; done) | (simp; omega) | omega)) | (with_reducible apply Below.drew) | (with_reducible apply below_drewN') | (refine Below.trans ?_ (Below.mono (by assumption) (by first | exact Nat.le_refl _ | (simp; done) | (simp; omega) | omega))) | exact Below.refl _ _ | assumption))
          case ca8R8 => (first | (simp [Act.put]; done) | (simp [Act.put, *]; done))
          try dsimp only
          refine wpW_det (t' := ?ct9R8) 9 (by rfl) (by kernel_rfl) (NQ_free _) (by kernel_rfl) ?cw9R8 ?ch9R8 ?ca9R8 (Eq.refl _) ?cH9R8
          case cw9R8 => (go_simp; done)
          case ch9R8 =>
            intro ds w' hS K hK
            have hc := (bcell hS).1
            have hf := (bcell hS).2
            have hz := hS.size
            try simp at hz
            go_simp
            try go_bits
            first
              | exact hK _ hS (Gr.refl _)
              | exact hK _ (by repeat (first | (with_reducible exact Below.refl _ _) | (with_reducible assumption) | ((with_reducible refine Below.setCell ?_ ?_ _); rotate_left; · (first | exact Nat.le_refl _ | (simp; done) | (simp; omega) | omega)) | ((with_reducible refine Below.alloc ?_ ?_ _); rotate_left; · (first | exact Nat.le_refl _ | (simp; done) | (simp; omega) | omega)) | (with_reducible apply Below.drew) | (with_reducible apply below_drewN') | (refine Below.trans ?_ (Below.mono (by assumption) (by first | exact Nat.le_refl _ | (simp; done) | (simp; omega) | omega))) | exact Below.refl _ _ | assumption)) (by repeat (first | (with_reducible exact Below.refl _ _) | (with_reducible assumption) | ((with_reducible refine Below.setCell ?_ ?_ _); rotate_left; · (first | exact Nat.le_refl _ | (simp; done) | (simp; omega) | omega)) | ((with_reducible refine Below.alloc ?_ ?_ _); rotate_left; · (first | exact Nat.le_refl _ | (simp; done) | (simp; omega) | omega)) | (with_reducible apply Below.drew) | (with_reducible apply below_drewN') | (refine Below.trans ?_ (Below.mono (by assumption) (by first | exact Nat.le_refl _ | (simp; done) | (simp; omega) | omega))) | exact Below.refl _ _ | assumption))
          case ca9R8 => (first | (simp [Act.put]; done) | (simp [Act.put, *]; done))
          try dsimp only
          refine wpW_det (t' := ?ct10R8) 10 (by rfl) (by kernel_rfl) (NQ_free _) (by kernel_rfl) ?cw10R8 ?ch10R8 ?ca10R8 (Eq.refl _) ?cH10R8
          case cw10R8 => (go_simp; done)
          case ch10R8 =>
            intro ds w' hS K hK
            have hc := (bcell hS).1
            have hf := (bcell hS).2
            have hz := hS.size
            try simp at hz
            go_simp
            try go_bits
            first
              | exact hK _ hS (Gr.refl _)
              | exact hK _ (by repeat (first | (with_reducible exact Below.refl _ _) | (with_reducible assumption) | ((with_reducible refine Below.setCell ?_ ?_ _); rotate_left; · (first | exact Nat.le_refl _ | (simp; done) | (simp; omega) | omega)) | ((with_reducible refine Below.alloc ?_ ?_ _); rotate_left; · (first | exact Nat.le_refl _ | (simp; done) | (simp; omega) | omega)) | (with_reducible apply Below.drew) | (with_reducible apply below_drewN') | (refine Below.trans ?_ (Below.mono (by assumption) (by first | exact Nat.le_refl _ | (simp; done) | (simp; omega) | omega))) | exact Below.refl _ _ | assumption)) (by repeat (first | (with_reducible exact Below.refl _ _) | (with_reducible assumption) | ((with_reducible refine Below.setCell ?_ ?_ _); rotate_left; · (first | exact Nat.le_refl _ | (simp; done) | (simp; omega) | omega)) | ((with_reducible refine Below.alloc ?_ ?_ _); rotate_left; · (first | exact Nat.le_refl _ | (simp; done) | (simp; omega) | omega)) | (with_reducible apply Below.drew) | (with_reducible apply below_drewN') | (refine Below.trans ?_ (Below.mono (by assumption) (by first | exact Nat.le_refl _ | (simp; done) | (simp; omega) | omega))) | exact Below.refl _ _ | assumption))
          case ca10R8 => (first | (simp [Act.put]; done) | (simp [Act.put, *]; done))
          try dsimp only
          refine wpW_branch [12] (by kernel_rfl) (by simp) ?_
          intro w5 hg5 hS5
          try have z := Blk.gr z hg5
          try have hj6 := hj6.below hg5 hj6.base
          try have hs6 := hs6.below hg5 hs6.base
          try (have zz := blk4 z; obtain ⟨z0, z1, z2, z3, zf⟩ := zz)
          try have lz := z.lt
          refine each_cons ?_ (each_nil)
          · refine wpOp_go (by rfl) (Eq.refl _) (by go_simp; done) ?_
            intro K hK
            go_simp
            try simp only [Act.put]
            refine hK _ _ hS5 ?_
            clear hK K
            refine wpW_branch [13] (by kernel_rfl) (by simp) ?_
            intro w6 hg6 hS6
            try have z := Blk.gr z hg6
            try have hj6 := hj6.below hg6 hj6.base
            try have hs6 := hs6.below hg6 hs6.base
            try (have zz := blk4 z; obtain ⟨z0, z1, z2, z3, zf⟩ := zz)
            try have lz := z.lt
            refine each_cons ?_ (each_nil)
            · refine wpOp_go (by rfl) (Eq.refl _) (by go_simp; done) ?_
              intro K hK
              go_simp
              try simp only [Act.put]
              have z := Blk.set4 z (.int .i64 ra) (.int .i64 rb) (.int .i64 rc) (.int .i64 rd)
              refine hK _ _ (Below.set4 hS6 hzp) ?_
              clear hK K z0 z1 z2 z3 zf
              refine wpW_det (t' := ?ct14R9) 14 (by rfl) (by kernel_rfl) (NQ_free _) (by kernel_rfl) ?cw14R9 ?ch14R9 ?ca14R9 (Eq.refl _) ?cH14R9
              case cw14R9 => (go_simp; done)
              case ch14R9 =>
                intro ds w' hS K hK
                have hc := (bcell hS).1
                have hf := (bcell hS).2
                have hz := hS.size
                try simp at hz
                go_simp
                try go_bits
                first
                  | exact hK _ hS (Gr.refl _)
                  | exact hK _ (by repeat (first | (with_reducible exact Below.refl _ _) | (with_reducible assumption) | ((with_reducible refine Below.setCell ?_ ?_ _); rotate_left; · (first | exact Nat.le_refl _ | (simp; done) | (simp; omega) | omega)) | ((with_reducible refine Below.alloc ?_ ?_ _); rotate_left; · (first | exact Nat.le_refl _ | (simp; done) | (simp; omega) | omega)) | (with_reducible apply Below.drew) | (with_reducible apply below_drewN') | (refine Below.trans ?_ (Below.mono (by assumption) (by first | exact Nat.le_refl _ | (simp; done) | (simp; omega) | omega))) | exact Below.refl _ _ | assumption)) (by repeat (first | (with_reducible exact Below.refl _ _) | (with_reducible assumption) | ((with_reducible refine Below.setCell ?_ ?_ _); rotate_left; · (first | exact Nat.le_refl _ | (simp; done) | (simp; omega) | omega)) | ((with_reducible refine Below.alloc ?_ ?_ _); rotate_left; · (first | exact Nat.le_refl _ | (simp; done) | (simp; omega) | omega)) | (with_reducible apply Below.drew) | (with_reducible apply below_drewN') | (refine Below.trans ?_ (Below.mono (by assumption) (by first | exact Nat.le_refl _ | (simp; done) | (simp; omega) | omega))) | exact Below.refl _ _ | assumption))
              case ca14R9 => (first | (simp [Act.put]; done) | (simp [Act.put, *]; done))
              try dsimp only
              refine wpW_end (by kernel_rfl) ?_
              intro wE hg hS
              unfold NQ
              dsimp only
              have z := z.gr hg
              exact H.out _ _ _ _ _ _ _ _ _ _ _ _ _ _ _ _ _ _ _ hcr z hzp hS
    · refine wpOp_go (by rfl) (Eq.refl _) (by go_simp; done) ?_
      intro K hK
      go_simp
      try simp only [Act.put]
      have z := Blk.new w2 51 #[.int .i64 0, .int .i64 0, .int .i64 0, .int .i64 0]
      have hzp := Below.size hS2
      try have hj6 := hj6.below ((Below.refl w2.heap.size w2).alloc (Nat.le_refl _) (.cells #[.int .i64 0, .int .i64 0, .int .i64 0, .int .i64 0] 51 (0, 0))) hj6.base
      try have hs6 := hs6.below ((Below.refl w2.heap.size w2).alloc (Nat.le_refl _) (.cells #[.int .i64 0, .int .i64 0, .int .i64 0, .int .i64 0] 51 (0, 0))) hs6.base
      refine hK _ _ (Below.alloc hS2 (Below.size hS2) _) ?_
      clear hK K
      refine wpW_branch [5] (by kernel_rfl) (by simp) ?_
      intro w3 hg3 hS3
      try have z := Blk.gr z hg3
      try have hj6 := hj6.below hg3 hj6.base
      try have hs6 := hs6.below hg3 hs6.base
      try (have zz := blk4 z; obtain ⟨z0, z1, z2, z3, zf⟩ := zz)
      try have lz := z.lt
      refine each_cons ?_ (each_nil)
      · refine wpOp_go (by rfl) (Eq.refl _) (by go_simp; done) ?_
        intro K hK
        go_simp
        try simp only [Act.put]
        have hs5 := HS.out _ hS3
        refine (copySetups_any l A' c' B _ hs5 HA'.out (by omega)).mono ?_
        rintro e w6 ⟨v, rfl, own6, hB6⟩
        obtain ⟨A7, c7, rfl, hs6⟩ := copiedS hs5 own6
        try have z := Blk.gr z hB6
        have hj6 := (hj6.below hB6 hj6.base).more (Nat.le_trans hj6.base (Below.size hB6)) (Nat.le_refl _)
        refine hK _ _ (Below.trans hS3 (hB6.mono (Below.size hS3))) ?_
        clear hK K own6 hs5
        refine wpW_branch [6] (by kernel_rfl) (by simp) ?_
        intro w4 hg4 hS4
        try have z := Blk.gr z hg4
        try have hj6 := hj6.below hg4 hj6.base
        try have hs6 := hs6.below hg4 hs6.base
        try (have zz := blk4 z; obtain ⟨z0, z1, z2, z3, zf⟩ := zz)
        try have lz := z.lt
        refine each_cons ?_ (each_nil)
        · refine wpOp_go (by rfl) (Eq.refl _) (by go_simp; done) ?_
          intro K hK
          go_simp
          try simp only [Act.put]
          refine (checkPlan_ok j l P A6 c6 _ A7 c7 _ hj6 hs6 (HE.out _ hS4) H0.out H1.out HP.out).mono ?_
          rintro e w8 ⟨hcp, hB8⟩
          obtain ⟨i, ra, rb, rc, rd, er, rfl, hcr⟩ := hcp.form
          try have z := Blk.gr z hB8
          refine hK _ _ (Below.trans hS4 (hB8.mono (Below.size hS4))) ?_
          clear hK K hj6 hs6
          refine wpW_det (t' := ?ct7R10) 7 (by rfl) (by kernel_rfl) (NQ_free _) (by kernel_rfl) ?cw7R10 ?ch7R10 ?ca7R10 (Eq.refl _) ?cH7R10
          case cw7R10 => (go_simp; done)
          case ch7R10 =>
            intro ds w' hS K hK
            have hc := (bcell hS).1
            have hf := (bcell hS).2
            have hz := hS.size
            try simp at hz
            go_simp
            try go_bits
            first
              | exact hK _ hS (Gr.refl _)
              | exact hK _ (by repeat (first | (with_reducible exact Below.refl _ _) | (with_reducible assumption) | ((with_reducible refine Below.setCell ?_ ?_ _); rotate_left; · (first | exact Nat.le_refl _ | (simp; done) | (simp; omega) | omega)) | ((with_reducible refine Below.alloc ?_ ?_ _); rotate_left; · (first | exact Nat.le_refl _ | (simp; done) | (simp; omega) | omega)) | (with_reducible apply Below.drew) | (with_reducible apply below_drewN') | (refine Below.trans ?_ (Below.mono (by assumption) (by first | exact Nat.le_refl _ | (simp; done) | (simp; omega) | omega))) | exact Below.refl _ _ | assumption)) (by repeat (first | (with_reducible exact Below.refl _ _) | (with_reducible assumption) | ((with_reducible refine Below.setCell ?_ ?_ _); rotate_left; · (first | exact Nat.le_refl _ | (simp; done) | (simp; omega) | omega)) | ((with_reducible refine Below.alloc ?_ ?_ _); rotate_left; · (first | exact Nat.le_refl _ | (simp; done) | (simp; omega) | omega)) | (with_reducible apply Below.drew) | (with_reducible apply below_drewN') | (refine Below.trans ?_ (Below.mono (by assumption) (by first | exact Nat.le_refl _ | (simp; done) | (simp; omega) | omega))) | exact Below.refl _ _ | assumption))
          case ca7R10 => (first | (simp [Act.put]; done) | (simp [Act.put, *]; done))
          try dsimp only
          refine wpW_det (t' := ?ct8R10) 8 (by rfl) (by kernel_rfl) (NQ_free _) (by kernel_rfl) ?cw8R10 ?ch8R10 ?ca8R10 (Eq.refl _) ?cH8R10
          case cw8R10 => (go_simp; done)
          case ch8R10 =>
            intro ds w' hS K hK
            have hc := (bcell hS).1
            have hf := (bcell hS).2
            have hz := hS.size
            try simp at hz
            go_simp
            try go_bits
            first
              | exact hK _ hS (Gr.refl _)
              | exact hK _ (by repeat (first | (with_reducible exact Below.refl _ _) | (with_reducible assumption) | ((with_reducible refine Below.setCell ?_ ?_ _); rotate_left; · (first | exact Nat.le_refl _ | (simp; done) | (simp; omega) | omega)) | ((with_reducible refine Below.alloc ?_ ?_ _); rotate_left; · (first | exact Nat.le_refl _ | (simp; done) | (simp; omega) | omega)) | (with_reducible apply Below.drew) | (with_reducible apply below_drewN') | (refine Below.trans ?_ (Below.mono (by assumption) (by first | exact Nat.le_refl _ | (simp; done) | (simp; omega) | omega))) | exact Below.refl _ _ | assumption)) (by repeat (first | (with_reducible exact Below.refl _ _) | (with_reducible assumption) | ((with_reducible refine Below.setCell ?_ ?_ _); rotate_left; · (first | exact Nat.le_refl _ | (simp; done) | (simp; omega) | omega)) | ((with_reducible refine Below.alloc ?_ ?_ _); rotate_left; · (first | exact Nat.le_refl _ | (simp; done) | (simp; omega) | omega)) | (with_reducible apply Below.drew) | (with_reducible apply below_drewN') | (refine Below.trans ?_ (Below.mono (by assumption) (by first | exact Nat.le_refl _ | (simp; done) | (simp; omega) | omega))) | exact Below.refl _ _ | assumption))
          case ca8R10 => (first | (simp [Act.put]; done) | (simp [Act.put, *]; done))
          try dsimp only
          refine wpW_det (t' := ?ct9R10) 9 (by rfl) (by kernel_rfl) (NQ_free _) (by kernel_rfl) ?cw9R10 ?ch9R10 ?ca9R10 (Eq.refl _) ?cH9R10
          case cw9R10 => (go_simp; done)
          case ch9R10 =>
            intro ds w' hS K hK
            have hc := (bcell hS).1
            have hf := (bcell hS).2
            have hz := hS.size
            try simp at hz
            go_simp
            try go_bits
            first
              | exact hK _ hS (Gr.refl _)
              | exact hK _ (by repeat (first | (with_reducible exact Below.refl _ _) | (with_reducible assumption) | ((with_reducible refine Below.setCell ?_ ?_ _); rotate_left; · (first | exact Nat.le_refl _ | (simp; done) | (simp; omega) | omega)) | ((with_reducible refine Below.alloc ?_ ?_ _); rotate_left; · (first | exact Nat.le_refl _ | (simp; done) | (simp; omega) | omega)) | (with_reducible apply Below.drew) | (with_reducible apply below_drewN') | (refine Below.trans ?_ (Below.mono (by assumption) (by first | exact Nat.le_refl _ | (simp; done) | (simp; omega) | omega))) | exact Below.refl _ _ | assumption)) (by repeat (first | (with_reducible exact Below.refl _ _) | (with_reducible assumption) | ((with_reducible refine Below.setCell ?_ ?_ _); rotate_left; · (first | exact Nat.le_refl _ | (simp; done) | (simp; omega) | omega)) | ((with_reducible refine Below.alloc ?_ ?_ _); rotate_left; · (first | exact Nat.le_refl _ | (simp; done) | (simp; omega) | omega)) | (with_reducible apply Below.drew) | (with_reducible apply below_drewN') | (refine Below.trans ?_ (Below.mono (by assumption) (by first | exact Nat.le_refl _ | (simp; done) | (simp; omega) | omega))) | exact Below.refl _ _ | assumption))
          case ca9R10 => (first | (simp [Act.put]; done) | (simp [Act.put, *]; done))
          try dsimp only
          refine wpW_det (t' := ?ct10R10) 10 (by rfl) (by kernel_rfl) (NQ_free _) (by kernel_rfl) ?cw10R10 ?ch10R10 ?ca10R10 (Eq.refl _) ?cH10R10
          case cw10R10 => (go_simp; done)
          case ch10R10 =>
            intro ds w' hS K hK
            have hc := (bcell hS).1
            have hf := (bcell hS).2
            have hz := hS.size
            try simp at hz
            go_simp
            try go_bits
            first
              | exact hK _ hS (Gr.refl _)
              | exact hK _ (by repeat (first | (with_reducible exact Below.refl _ _) | (with_reducible assumption) | ((with_reducible refine Below.setCell ?_ ?_ _); rotate_left; · (first | exact Nat.le_refl _ | (simp; done) | (simp; omega) | omega)) | ((with_reducible refine Below.alloc ?_ ?_ _); rotate_left; · (first | exact Nat.le_refl _ | (simp; done) | (simp; omega) | omega)) | (with_reducible apply Below.drew) | (with_reducible apply below_drewN') | (refine Below.trans ?_ (Below.mono (by assumption) (by first | exact Nat.le_refl _ | (simp; done) | (simp; omega) | omega))) | exact Below.refl _ _ | assumption)) (by repeat (first | (with_reducible exact Below.refl _ _) | (with_reducible assumption) | ((with_reducible refine Below.setCell ?_ ?_ _); rotate_left; · (first | exact Nat.le_refl _ | (simp; done) | (simp; omega) | omega)) | ((with_reducible refine Below.alloc ?_ ?_ _); rotate_left; · (first | exact Nat.le_refl _ | (simp; done) | (simp; omega) | omega)) | (with_reducible apply Below.drew) | (with_reducible apply below_drewN') | (refine Below.trans ?_ (Below.mono (by assumption) (by first | exact Nat.le_refl _ | (simp; done) | (simp; omega) | omega))) | exact Below.refl _ _ | assumption))
          case ca10R10 => (first | (simp [Act.put]; done) | (simp [Act.put, *]; done))
          try dsimp only
          refine wpW_branch [12] (by kernel_rfl) (by simp) ?_
          intro w5 hg5 hS5
          try have z := Blk.gr z hg5
          try have hj6 := hj6.below hg5 hj6.base
          try have hs6 := hs6.below hg5 hs6.base
          try (have zz := blk4 z; obtain ⟨z0, z1, z2, z3, zf⟩ := zz)
          try have lz := z.lt
          refine each_cons ?_ (each_nil)
          · refine wpOp_go (by rfl) (Eq.refl _) (by go_simp; done) ?_
            intro K hK
            go_simp
            try simp only [Act.put]
            refine hK _ _ hS5 ?_
            clear hK K
            refine wpW_branch [13] (by kernel_rfl) (by simp) ?_
            intro w6 hg6 hS6
            try have z := Blk.gr z hg6
            try have hj6 := hj6.below hg6 hj6.base
            try have hs6 := hs6.below hg6 hs6.base
            try (have zz := blk4 z; obtain ⟨z0, z1, z2, z3, zf⟩ := zz)
            try have lz := z.lt
            refine each_cons ?_ (each_nil)
            · refine wpOp_go (by rfl) (Eq.refl _) (by go_simp; done) ?_
              intro K hK
              go_simp
              try simp only [Act.put]
              have z := Blk.set4 z (.int .i64 ra) (.int .i64 rb) (.int .i64 rc) (.int .i64 rd)
              refine hK _ _ (Below.set4 hS6 hzp) ?_
              clear hK K z0 z1 z2 z3 zf
              refine wpW_det (t' := ?ct14R11) 14 (by rfl) (by kernel_rfl) (NQ_free _) (by kernel_rfl) ?cw14R11 ?ch14R11 ?ca14R11 (Eq.refl _) ?cH14R11
              case cw14R11 => (go_simp; done)
              case ch14R11 =>
                intro ds w' hS K hK
                have hc := (bcell hS).1
                have hf := (bcell hS).2
                have hz := hS.size
                try simp at hz
                go_simp
                try go_bits
                first
                  | exact hK _ hS (Gr.refl _)
                  | exact hK _ (by repeat (first | (with_reducible exact Below.refl _ _) | (with_reducible assumption) | ((with_reducible refine Below.setCell ?_ ?_ _); rotate_left; · (first | exact Nat.le_refl _ | (simp; done) | (simp; omega) | omega)) | ((with_reducible refine Below.alloc ?_ ?_ _); rotate_left; · (first | exact Nat.le_refl _ | (simp; done) | (simp; omega) | omega)) | (with_reducible apply Below.drew) | (with_reducible apply below_drewN') | (refine Below.trans ?_ (Below.mono (by assumption) (by first | exact Nat.le_refl _ | (simp; done) | (simp; omega) | omega))) | exact Below.refl _ _ | assumption)) (by repeat (first | (with_reducible exact Below.refl _ _) | (with_reducible assumption) | ((with_reducible refine Below.setCell ?_ ?_ _); rotate_left; · (first | exact Nat.le_refl _ | (simp; done) | (simp; omega) | omega)) | ((with_reducible refine Below.alloc ?_ ?_ _); rotate_left; · (first | exact Nat.le_refl _ | (simp; done) | (simp; omega) | omega)) | (with_reducible apply Below.drew) | (with_reducible apply below_drewN') | (refine Below.trans ?_ (Below.mono (by assumption) (by first | exact Nat.le_refl _ | (simp; done) | (simp; omega) | omega))) | exact Below.refl _ _ | assumption))
              case ca14R11 => (first | (simp [Act.put]; done) | (simp [Act.put, *]; done))
              try dsimp only
              refine wpW_end (by kernel_rfl) ?_
              intro wE hg hS
              unfold NQ
              dsimp only
              have z := z.gr hg
              exact H.out _ _ _ _ _ _ _ _ _ _ _ _ _ _ _ _ _ _ _ hcr z hzp hS
  · refine wpOp_go (by rfl) (Eq.refl _) (by go_simp; done) ?_
    intro K hK
    go_simp
    try simp only [Act.put]
    have z := Blk.new w1 51 #[.int .i64 0, .int .i64 0, .int .i64 0, .int .i64 0]
    have hzp := Below.size hS1
    try have hj6 := hj6.below ((Below.refl w1.heap.size w1).alloc (Nat.le_refl _) (.cells #[.int .i64 0, .int .i64 0, .int .i64 0, .int .i64 0] 51 (0, 0))) hj6.base
    try have hs6 := hs6.below ((Below.refl w1.heap.size w1).alloc (Nat.le_refl _) (.cells #[.int .i64 0, .int .i64 0, .int .i64 0, .int .i64 0] 51 (0, 0))) hs6.base
    refine hK _ _ (Below.alloc hS1 (Below.size hS1) _) ?_
    clear hK K
    refine wpW_branch [2] (by kernel_rfl) (by simp) ?_
    intro w2 hg2 hS2
    try have z := Blk.gr z hg2
    try have hj6 := hj6.below hg2 hj6.base
    try have hs6 := hs6.below hg2 hs6.base
    try (have zz := blk4 z; obtain ⟨z0, z1, z2, z3, zf⟩ := zz)
    try have lz := z.lt
    refine each_cons ?_ (each_nil)
    · refine wpOp_go (by rfl) (Eq.refl _) (by go_simp; done) ?_
      intro K hK
      go_simp
      try simp only [Act.put]
      have hj5 := HJ.out _ hS2
      refine (copyJoint_any j A c B _ hj5 HA.out (by omega)).mono ?_
      rintro e w6 ⟨v, rfl, own6, hB6⟩
      obtain ⟨A6, c6, rfl, hj6, hA6⟩ := copied hj5 own6
      try have z := Blk.gr z hB6
      refine hK _ _ (Below.trans hS2 (hB6.mono (Below.size hS2))) ?_
      clear hK K own6 hj5
      refine wpW_branch [5] (by kernel_rfl) (by simp) ?_
      intro w3 hg3 hS3
      try have z := Blk.gr z hg3
      try have hj6 := hj6.below hg3 hj6.base
      try have hs6 := hs6.below hg3 hs6.base
      try (have zz := blk4 z; obtain ⟨z0, z1, z2, z3, zf⟩ := zz)
      try have lz := z.lt
      refine each_cons ?_ (each_nil)
      · refine wpOp_go (by rfl) (Eq.refl _) (by go_simp; done) ?_
        intro K hK
        go_simp
        try simp only [Act.put]
        have hs5 := HS.out _ hS3
        refine (copySetups_any l A' c' B _ hs5 HA'.out (by omega)).mono ?_
        rintro e w6 ⟨v, rfl, own6, hB6⟩
        obtain ⟨A7, c7, rfl, hs6⟩ := copiedS hs5 own6
        try have z := Blk.gr z hB6
        have hj6 := (hj6.below hB6 hj6.base).more (Nat.le_trans hj6.base (Below.size hB6)) (Nat.le_refl _)
        refine hK _ _ (Below.trans hS3 (hB6.mono (Below.size hS3))) ?_
        clear hK K own6 hs5
        refine wpW_branch [6] (by kernel_rfl) (by simp) ?_
        intro w4 hg4 hS4
        try have z := Blk.gr z hg4
        try have hj6 := hj6.below hg4 hj6.base
        try have hs6 := hs6.below hg4 hs6.base
        try (have zz := blk4 z; obtain ⟨z0, z1, z2, z3, zf⟩ := zz)
        try have lz := z.lt
        refine each_cons ?_ (each_nil)
        · refine wpOp_go (by rfl) (Eq.refl _) (by go_simp; done) ?_
          intro K hK
          go_simp
          try simp only [Act.put]
          refine (checkPlan_ok j l P A6 c6 _ A7 c7 _ hj6 hs6 (HE.out _ hS4) H0.out H1.out HP.out).mono ?_
          rintro e w8 ⟨hcp, hB8⟩
          obtain ⟨i, ra, rb, rc, rd, er, rfl, hcr⟩ := hcp.form
          try have z := Blk.gr z hB8
          refine hK _ _ (Below.trans hS4 (hB8.mono (Below.size hS4))) ?_
          clear hK K hj6 hs6
          refine wpW_det (t' := ?ct7R12) 7 (by rfl) (by kernel_rfl) (NQ_free _) (by kernel_rfl) ?cw7R12 ?ch7R12 ?ca7R12 (Eq.refl _) ?cH7R12
          case cw7R12 => (go_simp; done)
          case ch7R12 =>
            intro ds w' hS K hK
            have hc := (bcell hS).1
            have hf := (bcell hS).2
            have hz := hS.size
            try simp at hz
            go_simp
            try go_bits
            first
              | exact hK _ hS (Gr.refl _)
              | exact hK _ (by repeat (first | (with_reducible exact Below.refl _ _) | (with_reducible assumption) | ((with_reducible refine Below.setCell ?_ ?_ _); rotate_left; · (first | exact Nat.le_refl _ | (simp; done) | (simp; omega) | omega)) | ((with_reducible refine Below.alloc ?_ ?_ _); rotate_left; · (first | exact Nat.le_refl _ | (simp; done) | (simp; omega) | omega)) | (with_reducible apply Below.drew) | (with_reducible apply below_drewN') | (refine Below.trans ?_ (Below.mono (by assumption) (by first | exact Nat.le_refl _ | (simp; done) | (simp; omega) | omega))) | exact Below.refl _ _ | assumption)) (by repeat (first | (with_reducible exact Below.refl _ _) | (with_reducible assumption) | ((with_reducible refine Below.setCell ?_ ?_ _); rotate_left; · (first | exact Nat.le_refl _ | (simp; done) | (simp; omega) | omega)) | ((with_reducible refine Below.alloc ?_ ?_ _); rotate_left; · (first | exact Nat.le_refl _ | (simp; done) | (simp; omega) | omega)) | (with_reducible apply Below.drew) | (with_reducible apply below_drewN') | (refine Below.trans ?_ (Below.mono (by assumption) (by first | exact Nat.le_refl _ | (simp; done) | (simp; omega) | omega))) | exact Below.refl _ _ | assumption))
          case ca7R12 => (first | (simp [Act.put]; done) | (simp [Act.put, *]; done))
          try dsimp only
          refine wpW_det (t' := ?ct8R12) 8 (by rfl) (by kernel_rfl) (NQ_free _) (by kernel_rfl) ?cw8R12 ?ch8R12 ?ca8R12 (Eq.refl _) ?cH8R12
          case cw8R12 => (go_simp; done)
          case ch8R12 =>
            intro ds w' hS K hK
            have hc := (bcell hS).1
            have hf := (bcell hS).2
            have hz := hS.size
            try simp at hz
            go_simp
            try go_bits
            first
              | exact hK _ hS (Gr.refl _)
              | exact hK _ (by repeat (first | (with_reducible exact Below.refl _ _) | (with_reducible assumption) | ((with_reducible refine Below.setCell ?_ ?_ _); rotate_left; · (first | exact Nat.le_refl _ | (simp; done) | (simp; omega) | omega)) | ((with_reducible refine Below.alloc ?_ ?_ _); rotate_left; · (first | exact Nat.le_refl _ | (simp; done) | (simp; omega) | omega)) | (with_reducible apply Below.drew) | (with_reducible apply below_drewN') | (refine Below.trans ?_ (Below.mono (by assumption) (by first | exact Nat.le_refl _ | (simp; done) | (simp; omega) | omega))) | exact Below.refl _ _ | assumption)) (by repeat (first | (with_reducible exact Below.refl _ _) | (with_reducible assumption) | ((with_reducible refine Below.setCell ?_ ?_ _); rotate_left; · (first | exact Nat.le_refl _ | (simp; done) | (simp; omega) | omega)) | ((with_reducible refine Below.alloc ?_ ?_ _); rotate_left; · (first | exact Nat.le_refl _ | (simp; done) | (simp; omega) | omega)) | (with_reducible apply Below.drew) | (with_reducible apply below_drewN') | (refine Below.trans ?_ (Below.mono (by assumption) (by first | exact Nat.le_refl _ | (simp; done) | (simp; omega) | omega))) | exact Below.refl _ _ | assumption))
          case ca8R12 => (first | (simp [Act.put]; done) | (simp [Act.put, *]; done))
          try dsimp only
          refine wpW_det (t' := ?ct9R12) 9 (by rfl) (by kernel_rfl) (NQ_free _) (by kernel_rfl) ?cw9R12 ?ch9R12 ?ca9R12 (Eq.refl _) ?cH9R12
          case cw9R12 => (go_simp; done)
          case ch9R12 =>
            intro ds w' hS K hK
            have hc := (bcell hS).1
            have hf := (bcell hS).2
            have hz := hS.size
            try simp at hz
            go_simp
            try go_bits
            first
              | exact hK _ hS (Gr.refl _)
              | exact hK _ (by repeat (first | (with_reducible exact Below.refl _ _) | (with_reducible assumption) | ((with_reducible refine Below.setCell ?_ ?_ _); rotate_left; · (first | exact Nat.le_refl _ | (simp; done) | (simp; omega) | omega)) | ((with_reducible refine Below.alloc ?_ ?_ _); rotate_left; · (first | exact Nat.le_refl _ | (simp; done) | (simp; omega) | omega)) | (with_reducible apply Below.drew) | (with_reducible apply below_drewN') | (refine Below.trans ?_ (Below.mono (by assumption) (by first | exact Nat.le_refl _ | (simp; done) | (simp; omega) | omega))) | exact Below.refl _ _ | assumption)) (by repeat (first | (with_reducible exact Below.refl _ _) | (with_reducible assumption) | ((with_reducible refine Below.setCell ?_ ?_ _); rotate_left; · (first | exact Nat.le_refl _ | (simp; done) | (simp; omega) | omega)) | ((with_reducible refine Below.alloc ?_ ?_ _); rotate_left; · (first | exact Nat.le_refl _ | (simp; done) | (simp; omega) | omega)) | (with_reducible apply Below.drew) | (with_reducible apply below_drewN') | (refine Below.trans ?_ (Below.mono (by assumption) (by first | exact Nat.le_refl _ | (simp; done) | (simp; omega) | omega))) | exact Below.refl _ _ | assumption))
          case ca9R12 => (first | (simp [Act.put]; done) | (simp [Act.put, *]; done))
          try dsimp only
          refine wpW_det (t' := ?ct10R12) 10 (by rfl) (by kernel_rfl) (NQ_free _) (by kernel_rfl) ?cw10R12 ?ch10R12 ?ca10R12 (Eq.refl _) ?cH10R12
          case cw10R12 => (go_simp; done)
          case ch10R12 =>
            intro ds w' hS K hK
            have hc := (bcell hS).1
            have hf := (bcell hS).2
            have hz := hS.size
            try simp at hz
            go_simp
            try go_bits
            first
              | exact hK _ hS (Gr.refl _)
              | exact hK _ (by repeat (first | (with_reducible exact Below.refl _ _) | (with_reducible assumption) | ((with_reducible refine Below.setCell ?_ ?_ _); rotate_left; · (first | exact Nat.le_refl _ | (simp; done) | (simp; omega) | omega)) | ((with_reducible refine Below.alloc ?_ ?_ _); rotate_left; · (first | exact Nat.le_refl _ | (simp; done) | (simp; omega) | omega)) | (with_reducible apply Below.drew) | (with_reducible apply below_drewN') | (refine Below.trans ?_ (Below.mono (by assumption) (by first | exact Nat.le_refl _ | (simp; done) | (simp; omega) | omega))) | exact Below.refl _ _ | assumption)) (by repeat (first | (with_reducible exact Below.refl _ _) | (with_reducible assumption) | ((with_reducible refine Below.setCell ?_ ?_ _); rotate_left; · (first | exact Nat.le_refl _ | (simp; done) | (simp; omega) | omega)) | ((with_reducible refine Below.alloc ?_ ?_ _); rotate_left; · (first | exact Nat.le_refl _ | (simp; done) | (simp; omega) | omega)) | (with_reducible apply Below.drew) | (with_reducible apply below_drewN') | (refine Below.trans ?_ (Below.mono (by assumption) (by first | exact Nat.le_refl _ | (simp; done) | (simp; omega) | omega))) | exact Below.refl _ _ | assumption))
          case ca10R12 => (first | (simp [Act.put]; done) | (simp [Act.put, *]; done))
          try dsimp only
          refine wpW_branch [12] (by kernel_rfl) (by simp) ?_
          intro w5 hg5 hS5
          try have z := Blk.gr z hg5
          try have hj6 := hj6.below hg5 hj6.base
          try have hs6 := hs6.below hg5 hs6.base
          try (have zz := blk4 z; obtain ⟨z0, z1, z2, z3, zf⟩ := zz)
          try have lz := z.lt
          refine each_cons ?_ (each_nil)
          · refine wpOp_go (by rfl) (Eq.refl _) (by go_simp; done) ?_
            intro K hK
            go_simp
            try simp only [Act.put]
            refine hK _ _ hS5 ?_
            clear hK K
            refine wpW_branch [13] (by kernel_rfl) (by simp) ?_
            intro w6 hg6 hS6
            try have z := Blk.gr z hg6
            try have hj6 := hj6.below hg6 hj6.base
            try have hs6 := hs6.below hg6 hs6.base
            try (have zz := blk4 z; obtain ⟨z0, z1, z2, z3, zf⟩ := zz)
            try have lz := z.lt
            refine each_cons ?_ (each_nil)
            · refine wpOp_go (by rfl) (Eq.refl _) (by go_simp; done) ?_
              intro K hK
              go_simp
              try simp only [Act.put]
              have z := Blk.set4 z (.int .i64 ra) (.int .i64 rb) (.int .i64 rc) (.int .i64 rd)
              refine hK _ _ (Below.set4 hS6 hzp) ?_
              clear hK K z0 z1 z2 z3 zf
              refine wpW_det (t' := ?ct14R13) 14 (by rfl) (by kernel_rfl) (NQ_free _) (by kernel_rfl) ?cw14R13 ?ch14R13 ?ca14R13 (Eq.refl _) ?cH14R13
              case cw14R13 => (go_simp; done)
              case ch14R13 =>
                intro ds w' hS K hK
                have hc := (bcell hS).1
                have hf := (bcell hS).2
                have hz := hS.size
                try simp at hz
                go_simp
                try go_bits
                first
                  | exact hK _ hS (Gr.refl _)
                  | exact hK _ (by repeat (first | (with_reducible exact Below.refl _ _) | (with_reducible assumption) | ((with_reducible refine Below.setCell ?_ ?_ _); rotate_left; · (first | exact Nat.le_refl _ | (simp; done) | (simp; omega) | omega)) | ((with_reducible refine Below.alloc ?_ ?_ _); rotate_left; · (first | exact Nat.le_refl _ | (simp; done) | (simp; omega) | omega)) | (with_reducible apply Below.drew) | (with_reducible apply below_drewN') | (refine Below.trans ?_ (Below.mono (by assumption) (by first | exact Nat.le_refl _ | (simp; done) | (simp; omega) | omega))) | exact Below.refl _ _ | assumption)) (by repeat (first | (with_reducible exact Below.refl _ _) | (with_reducible assumption) | ((with_reducible refine Below.setCell ?_ ?_ _); rotate_left; · (first | exact Nat.le_refl _ | (simp; done) | (simp; omega) | omega)) | ((with_reducible refine Below.alloc ?_ ?_ _); rotate_left; · (first | exact Nat.le_refl _ | (simp; done) | (simp; omega) | omega)) | (with_reducible apply Below.drew) | (with_reducible apply below_drewN') | (refine Below.trans ?_ (Below.mono (by assumption) (by first | exact Nat.le_refl _ | (simp; done) | (simp; omega) | omega))) | exact Below.refl _ _ | assumption))
              case ca14R13 => (first | (simp [Act.put]; done) | (simp [Act.put, *]; done))
              try dsimp only
              refine wpW_end (by kernel_rfl) ?_
              intro wE hg hS
              unfold NQ
              dsimp only
              have z := z.gr hg
              exact H.out _ _ _ _ _ _ _ _ _ _ _ _ _ _ _ _ _ _ _ hcr z hzp hS

set_option maxRecDepth 100000 in
set_option maxHeartbeats 8000000 in
/-- The place of the point (region 8). -/
theorem spotReg8 (j : Jo) (face x z : Int) (r : SR) (A : Option Addr) (c B : Nat) (A' : Option Addr) (c' m : Nat) (w : World) (hj : JoOk j A c B w) (hA : A = none → c = 0) (hlen : j.fs.length ≤ 1000000000) (hx : I64 x) (hz : I64 z) (hr : spotR j face x z = r) (pb po : Nat) (b : Blk w pb 91 (plC j A c A' c' m)) (o : Blk w po 49 #[.int .i64 x, .int .i64 z]) {t0 t2 t4 t6 t7 t8 t9 t10 t11 t12 t13 t14 t15 t16 t17 t18 t19 t20 t21 t22 t23 t24 t25 t26 t27 t28 t29 t30 t31 t32 t33 t34 t35 t36 t37 t38 t39 t40 t41 t42 t43 t44 t45 t46 t47 t48 t49 t50 t51 t52 t53 t54 t55 t56 t57 t58 t59 t60 t61 t62 t63 t64 t65 t66 t67 t68 t69 t70 t71 t72 t73 t74 t75 t76 t77 t78 t79 t80 t81 t82 t83 t84 t85 t86 t87 t88 t89 t90 t91 t92 t93 t94 t95 t96 t97 t98 t99 t100 t101 t102 t103 t104 t105 t106 t107 t108 t109 t110 t111 t112 t113 t114 t115 t116 t117 t118 t119 t120 t121 t122 t123 t124 t125 t126 t127 t128 t129 t130 t131 t132 t133 t134 t135 t136 t137 t138 t139 t140 t141 t142 t143 t144 t145 t146 t147 t148 t149 t150 t151 t152 t153 t154 t155 t156 t157 t158 t159 t160 t161 t162 t163 t164 t165 t166 t167 t168 t169 t170 t171 t172 t173 t174 t175 t176 t177 t178 t179 t180 t181 t182 t183 t184 t185 t186 t187 : Value} {ds : List Deferred} (K' : Act → World → Prop) (Q' : Exit → Act → World → Prop)
    (h : ∀ (p : Nat) (t55 t56 t57 t58 t59 t60 t61 t62 t63 : Value) (w' : World), Blk w' p 55 #[.int .i64 r.x, .int .i64 r.z] → w.heap.size ≤ p → Below w.heap.size w w' → K' ⟨#[t0, .int .i64 face, t2, .pointer (some ⟨pb, 0, none⟩), t4, .pointer (some ⟨po, 0, none⟩), t6, t7, t8, t9, .pointer (some ⟨p, 0, none⟩), .int .i64 r.e, t12, t13, t14, t15, t16, t17, t18, t19, t20, t21, t22, t23, t24, t25, t26, t27, t28, t29, t30, t31, t32, t33, t34, t35, t36, t37, t38, t39, t40, t41, t42, t43, t44, t45, t46, t47, t48, t49, t50, t51, t52, t53, t54, t55, t56, t57, t58, t59, t60, t61, t62, t63, t64, t65, t66, t67, t68, t69, t70, t71, t72, t73, t74, t75, t76, t77, t78, t79, t80, t81, t82, t83, t84, t85, t86, t87, t88, t89, t90, t91, t92, t93, t94, t95, t96, t97, t98, t99, t100, t101, t102, t103, t104, t105, t106, t107, t108, t109, t110, t111, t112, t113, t114, t115, t116, t117, t118, t119, t120, t121, t122, t123, t124, t125, t126, t127, t128, t129, t130, t131, t132, t133, t134, t135, t136, t137, t138, t139, t140, t141, t142, t143, t144, t145, t146, t147, t148, t149, t150, t151, t152, t153, t154, t155, t156, t157, t158, t159, t160, t161, t162, t163, t164, t165, t166, t167, t168, t169, t170, t171, t172, t173, t174, t175, t176, t177, t178, t179, t180, t181, t182, t183, t184, t185, t186, t187], ds⟩ w') :
    (regOf Tryz.f9 8).wp Tryz.prog (Exit.then K' Q') ⟨#[t0, .int .i64 face, t2, .pointer (some ⟨pb, 0, none⟩), t4, .pointer (some ⟨po, 0, none⟩), t6, t7, t8, t9, t10, t11, t12, t13, t14, t15, t16, t17, t18, t19, t20, t21, t22, t23, t24, t25, t26, t27, t28, t29, t30, t31, t32, t33, t34, t35, t36, t37, t38, t39, t40, t41, t42, t43, t44, t45, t46, t47, t48, t49, t50, t51, t52, t53, t54, t55, t56, t57, t58, t59, t60, t61, t62, t63, t64, t65, t66, t67, t68, t69, t70, t71, t72, t73, t74, t75, t76, t77, t78, t79, t80, t81, t82, t83, t84, t85, t86, t87, t88, t89, t90, t91, t92, t93, t94, t95, t96, t97, t98, t99, t100, t101, t102, t103, t104, t105, t106, t107, t108, t109, t110, t111, t112, t113, t114, t115, t116, t117, t118, t119, t120, t121, t122, t123, t124, t125, t126, t127, t128, t129, t130, t131, t132, t133, t134, t135, t136, t137, t138, t139, t140, t141, t142, t143, t144, t145, t146, t147, t148, t149, t150, t151, t152, t153, t154, t155, t156, t157, t158, t159, t160, t161, t162, t163, t164, t165, t166, t167, t168, t169, t170, t171, t172, t173, t174, t175, t176, t177, t178, t179, t180, t181, t182, t183, t184, t185, t186, t187], ds⟩ w := by
  have HJ : Hid (∀ W, Below w.heap.size w W → JoOk j A c B W) := Lib.hid fun W h => hj.below h hj.base
  have H := Lib.hid h
  have HR := Lib.hid hr
  have HA := Lib.hid hA
  clear h hj hr hA
  unfold plC at b
  obtain ⟨t0, t1, t2, t3, t4⟩ := pl_cells b
  obtain ⟨u0, u1, _⟩ := blk2 o
  have lb := b.lt
  have lo := o.lt
  conv in (regOf _ _) => whnf
  refine wp_region_w (Gr _) (by kernel_rfl) (Below.refl _ _).drew ?_
  refine wpW_det (t' := ?ct0R14) 0 (by rfl) (by kernel_rfl) (NQ_free _) (by kernel_rfl) ?cw0R14 ?ch0R14 ?ca0R14 (Eq.refl _) ?cH0R14
  case cw0R14 => (go_simp; done)
  case ch0R14 =>
    intro ds w' hS K hK
    have hc := (bcell hS).1
    have hf := (bcell hS).2
    have hz := hS.size
    try simp at hz
    go_simp
    try go_bits
    first
      | exact hK _ hS (Gr.refl _)
      | exact hK _ (by repeat (first | (with_reducible exact Below.refl _ _) | (with_reducible assumption) | ((with_reducible refine Below.setCell ?_ ?_ _); rotate_left; · (first | exact Nat.le_refl _ | (simp; done) | (simp; omega) | omega)) | ((with_reducible refine Below.alloc ?_ ?_ _); rotate_left; · (first | exact Nat.le_refl _ | (simp; done) | (simp; omega) | omega)) | (with_reducible apply Below.drew) | (with_reducible apply below_drewN') | (refine Below.trans ?_ (Below.mono (by assumption) (by first | exact Nat.le_refl _ | (simp; done) | (simp; omega) | omega))) | exact Below.refl _ _ | assumption)) (by repeat (first | (with_reducible exact Below.refl _ _) | (with_reducible assumption) | ((with_reducible refine Below.setCell ?_ ?_ _); rotate_left; · (first | exact Nat.le_refl _ | (simp; done) | (simp; omega) | omega)) | ((with_reducible refine Below.alloc ?_ ?_ _); rotate_left; · (first | exact Nat.le_refl _ | (simp; done) | (simp; omega) | omega)) | (with_reducible apply Below.drew) | (with_reducible apply below_drewN') | (refine Below.trans ?_ (Below.mono (by assumption) (by first | exact Nat.le_refl _ | (simp; done) | (simp; omega) | omega))) | exact Below.refl _ _ | assumption))
  case ca0R14 => (first | (simp [Act.put]; done) | (simp [Act.put, *]; done))
  try dsimp only
  refine wpW_det (t' := ?ct1R14) 1 (by rfl) (by kernel_rfl) (NQ_free _) (by kernel_rfl) ?cw1R14 ?ch1R14 ?ca1R14 (Eq.refl _) ?cH1R14
  case cw1R14 => (go_simp; done)
  case ch1R14 =>
    intro ds w' hS K hK
    have hc := (bcell hS).1
    have hf := (bcell hS).2
    have hz := hS.size
    try simp at hz
    go_simp
    try go_bits
    first
      | exact hK _ hS (Gr.refl _)
      | exact hK _ (by repeat (first | (with_reducible exact Below.refl _ _) | (with_reducible assumption) | ((with_reducible refine Below.setCell ?_ ?_ _); rotate_left; · (first | exact Nat.le_refl _ | (simp; done) | (simp; omega) | omega)) | ((with_reducible refine Below.alloc ?_ ?_ _); rotate_left; · (first | exact Nat.le_refl _ | (simp; done) | (simp; omega) | omega)) | (with_reducible apply Below.drew) | (with_reducible apply below_drewN') | (refine Below.trans ?_ (Below.mono (by assumption) (by first | exact Nat.le_refl _ | (simp; done) | (simp; omega) | omega))) | exact Below.refl _ _ | assumption)) (by repeat (first | (with_reducible exact Below.refl _ _) | (with_reducible assumption) | ((with_reducible refine Below.setCell ?_ ?_ _); rotate_left; · (first | exact Nat.le_refl _ | (simp; done) | (simp; omega) | omega)) | ((with_reducible refine Below.alloc ?_ ?_ _); rotate_left; · (first | exact Nat.le_refl _ | (simp; done) | (simp; omega) | omega)) | (with_reducible apply Below.drew) | (with_reducible apply below_drewN') | (refine Below.trans ?_ (Below.mono (by assumption) (by first | exact Nat.le_refl _ | (simp; done) | (simp; omega) | omega))) | exact Below.refl _ _ | assumption))
  case ca1R14 => (first | (simp [Act.put]; done) | (simp [Act.put, *]; done))
  try dsimp only
  refine wpW_det (t' := ?ct3R14) 3 (by rfl) (by kernel_rfl) (NQ_free _) (by kernel_rfl) ?cw3R14 ?ch3R14 ?ca3R14 (Eq.refl _) ?cH3R14
  case cw3R14 => (go_simp; done)
  case ch3R14 =>
    intro ds w' hS K hK
    have hc := (bcell hS).1
    have hf := (bcell hS).2
    have hz := hS.size
    try simp at hz
    go_simp
    try go_bits
    first
      | exact hK _ hS (Gr.refl _)
      | exact hK _ (by repeat (first | (with_reducible exact Below.refl _ _) | (with_reducible assumption) | ((with_reducible refine Below.setCell ?_ ?_ _); rotate_left; · (first | exact Nat.le_refl _ | (simp; done) | (simp; omega) | omega)) | ((with_reducible refine Below.alloc ?_ ?_ _); rotate_left; · (first | exact Nat.le_refl _ | (simp; done) | (simp; omega) | omega)) | (with_reducible apply Below.drew) | (with_reducible apply below_drewN') | (refine Below.trans ?_ (Below.mono (by assumption) (by first | exact Nat.le_refl _ | (simp; done) | (simp; omega) | omega))) | exact Below.refl _ _ | assumption)) (by repeat (first | (with_reducible exact Below.refl _ _) | (with_reducible assumption) | ((with_reducible refine Below.setCell ?_ ?_ _); rotate_left; · (first | exact Nat.le_refl _ | (simp; done) | (simp; omega) | omega)) | ((with_reducible refine Below.alloc ?_ ?_ _); rotate_left; · (first | exact Nat.le_refl _ | (simp; done) | (simp; omega) | omega)) | (with_reducible apply Below.drew) | (with_reducible apply below_drewN') | (refine Below.trans ?_ (Below.mono (by assumption) (by first | exact Nat.le_refl _ | (simp; done) | (simp; omega) | omega))) | exact Below.refl _ _ | assumption))
  case ca3R14 => (first | (simp [Act.put]; done) | (simp [Act.put, *]; done))
  try dsimp only
  refine wpW_det (t' := ?ct4R14) 4 (by rfl) (by kernel_rfl) (NQ_free _) (by kernel_rfl) ?cw4R14 ?ch4R14 ?ca4R14 (Eq.refl _) ?cH4R14
  case cw4R14 => (go_simp; done)
  case ch4R14 =>
    intro ds w' hS K hK
    have hc := (bcell hS).1
    have hf := (bcell hS).2
    have hz := hS.size
    try simp at hz
    go_simp
    try go_bits
    first
      | exact hK _ hS (Gr.refl _)
      | exact hK _ (by repeat (first | (with_reducible exact Below.refl _ _) | (with_reducible assumption) | ((with_reducible refine Below.setCell ?_ ?_ _); rotate_left; · (first | exact Nat.le_refl _ | (simp; done) | (simp; omega) | omega)) | ((with_reducible refine Below.alloc ?_ ?_ _); rotate_left; · (first | exact Nat.le_refl _ | (simp; done) | (simp; omega) | omega)) | (with_reducible apply Below.drew) | (with_reducible apply below_drewN') | (refine Below.trans ?_ (Below.mono (by assumption) (by first | exact Nat.le_refl _ | (simp; done) | (simp; omega) | omega))) | exact Below.refl _ _ | assumption)) (by repeat (first | (with_reducible exact Below.refl _ _) | (with_reducible assumption) | ((with_reducible refine Below.setCell ?_ ?_ _); rotate_left; · (first | exact Nat.le_refl _ | (simp; done) | (simp; omega) | omega)) | ((with_reducible refine Below.alloc ?_ ?_ _); rotate_left; · (first | exact Nat.le_refl _ | (simp; done) | (simp; omega) | omega)) | (with_reducible apply Below.drew) | (with_reducible apply below_drewN') | (refine Below.trans ?_ (Below.mono (by assumption) (by first | exact Nat.le_refl _ | (simp; done) | (simp; omega) | omega))) | exact Below.refl _ _ | assumption))
  case ca4R14 => (first | (simp [Act.put]; done) | (simp [Act.put, *]; done))
  try dsimp only
  refine wpW_branch [2, 9] (by kernel_rfl) (by simp) ?_
  intro w1 hg1 hS1
  try have s := Blk.gr s hg1
  try have hj6 := hj6.below hg1 hj6.base
  try (have zz := blk2 s; obtain ⟨z0, z1, zf⟩ := zz)
  try have lz := s.lt
  refine each_cons ?_ (each_cons ?_ (each_nil))
  · refine wpOp_go (by rfl) (Eq.refl _) (by go_simp; done) ?_
    intro K hK
    go_simp
    try simp only [Act.put]
    have hj5 := HJ.out _ hS1
    refine (copyJoint_any j A c B _ hj5 HA.out hlen).mono ?_
    rintro e w6 ⟨v, rfl, own6, hB6⟩
    obtain ⟨A6, c6, rfl, hj6, hA6⟩ := copied hj5 own6
    try have s := Blk.gr s hB6
    refine hK _ _ (Below.trans hS1 (hB6.mono (Below.size hS1))) ?_
    clear hK K own6 hj5
    refine wpW_branch [5, 9] (by kernel_rfl) (by simp) ?_
    intro w2 hg2 hS2
    try have s := Blk.gr s hg2
    try have hj6 := hj6.below hg2 hj6.base
    try (have zz := blk2 s; obtain ⟨z0, z1, zf⟩ := zz)
    try have lz := s.lt
    refine each_cons ?_ (each_cons ?_ (each_nil))
    · refine wpOp_go (by rfl) (Eq.refl _) (by go_simp; done) ?_
      intro K hK
      go_simp
      try simp only [Act.put]
      refine (spotAt_any j face x z A6 c6 w6.heap.size _ hj6 hx hz).mono ?_
      rw [HR.out]
      unfold srC
      rintro e w8 ⟨rfl, hB8⟩
      try have s := Blk.gr s hB8
      refine hK _ _ (Below.trans hS2 (hB8.mono (Below.size hS2))) ?_
      clear hK K
      refine wpW_det (t' := ?ct6R15) 6 (by rfl) (by kernel_rfl) (NQ_free _) (by kernel_rfl) ?cw6R15 ?ch6R15 ?ca6R15 (Eq.refl _) ?cH6R15
      case cw6R15 => (go_simp; done)
      case ch6R15 =>
        intro ds w' hS K hK
        have hc := (bcell hS).1
        have hf := (bcell hS).2
        have hz := hS.size
        try simp at hz
        go_simp
        try go_bits
        first
          | exact hK _ hS (Gr.refl _)
          | exact hK _ (by repeat (first | (with_reducible exact Below.refl _ _) | (with_reducible assumption) | ((with_reducible refine Below.setCell ?_ ?_ _); rotate_left; · (first | exact Nat.le_refl _ | (simp; done) | (simp; omega) | omega)) | ((with_reducible refine Below.alloc ?_ ?_ _); rotate_left; · (first | exact Nat.le_refl _ | (simp; done) | (simp; omega) | omega)) | (with_reducible apply Below.drew) | (with_reducible apply below_drewN') | (refine Below.trans ?_ (Below.mono (by assumption) (by first | exact Nat.le_refl _ | (simp; done) | (simp; omega) | omega))) | exact Below.refl _ _ | assumption)) (by repeat (first | (with_reducible exact Below.refl _ _) | (with_reducible assumption) | ((with_reducible refine Below.setCell ?_ ?_ _); rotate_left; · (first | exact Nat.le_refl _ | (simp; done) | (simp; omega) | omega)) | ((with_reducible refine Below.alloc ?_ ?_ _); rotate_left; · (first | exact Nat.le_refl _ | (simp; done) | (simp; omega) | omega)) | (with_reducible apply Below.drew) | (with_reducible apply below_drewN') | (refine Below.trans ?_ (Below.mono (by assumption) (by first | exact Nat.le_refl _ | (simp; done) | (simp; omega) | omega))) | exact Below.refl _ _ | assumption))
      case ca6R15 => (first | (simp [Act.put]; done) | (simp [Act.put, *]; done))
      try dsimp only
      refine wpW_det (t' := ?ct7R15) 7 (by rfl) (by kernel_rfl) (NQ_free _) (by kernel_rfl) ?cw7R15 ?ch7R15 ?ca7R15 (Eq.refl _) ?cH7R15
      case cw7R15 => (go_simp; done)
      case ch7R15 =>
        intro ds w' hS K hK
        have hc := (bcell hS).1
        have hf := (bcell hS).2
        have hz := hS.size
        try simp at hz
        go_simp
        try go_bits
        first
          | exact hK _ hS (Gr.refl _)
          | exact hK _ (by repeat (first | (with_reducible exact Below.refl _ _) | (with_reducible assumption) | ((with_reducible refine Below.setCell ?_ ?_ _); rotate_left; · (first | exact Nat.le_refl _ | (simp; done) | (simp; omega) | omega)) | ((with_reducible refine Below.alloc ?_ ?_ _); rotate_left; · (first | exact Nat.le_refl _ | (simp; done) | (simp; omega) | omega)) | (with_reducible apply Below.drew) | (with_reducible apply below_drewN') | (refine Below.trans ?_ (Below.mono (by assumption) (by first | exact Nat.le_refl _ | (simp; done) | (simp; omega) | omega))) | exact Below.refl _ _ | assumption)) (by repeat (first | (with_reducible exact Below.refl _ _) | (with_reducible assumption) | ((with_reducible refine Below.setCell ?_ ?_ _); rotate_left; · (first | exact Nat.le_refl _ | (simp; done) | (simp; omega) | omega)) | ((with_reducible refine Below.alloc ?_ ?_ _); rotate_left; · (first | exact Nat.le_refl _ | (simp; done) | (simp; omega) | omega)) | (with_reducible apply Below.drew) | (with_reducible apply below_drewN') | (refine Below.trans ?_ (Below.mono (by assumption) (by first | exact Nat.le_refl _ | (simp; done) | (simp; omega) | omega))) | exact Below.refl _ _ | assumption))
      case ca7R15 => (first | (simp [Act.put]; done) | (simp [Act.put, *]; done))
      try dsimp only
      refine wpW_det (t' := ?ct8R15) 8 (by rfl) (by kernel_rfl) (NQ_free _) (by kernel_rfl) ?cw8R15 ?ch8R15 ?ca8R15 (Eq.refl _) ?cH8R15
      case cw8R15 => (go_simp; done)
      case ch8R15 =>
        intro ds w' hS K hK
        have hc := (bcell hS).1
        have hf := (bcell hS).2
        have hz := hS.size
        try simp at hz
        go_simp
        try go_bits
        first
          | exact hK _ hS (Gr.refl _)
          | exact hK _ (by repeat (first | (with_reducible exact Below.refl _ _) | (with_reducible assumption) | ((with_reducible refine Below.setCell ?_ ?_ _); rotate_left; · (first | exact Nat.le_refl _ | (simp; done) | (simp; omega) | omega)) | ((with_reducible refine Below.alloc ?_ ?_ _); rotate_left; · (first | exact Nat.le_refl _ | (simp; done) | (simp; omega) | omega)) | (with_reducible apply Below.drew) | (with_reducible apply below_drewN') | (refine Below.trans ?_ (Below.mono (by assumption) (by first | exact Nat.le_refl _ | (simp; done) | (simp; omega) | omega))) | exact Below.refl _ _ | assumption)) (by repeat (first | (with_reducible exact Below.refl _ _) | (with_reducible assumption) | ((with_reducible refine Below.setCell ?_ ?_ _); rotate_left; · (first | exact Nat.le_refl _ | (simp; done) | (simp; omega) | omega)) | ((with_reducible refine Below.alloc ?_ ?_ _); rotate_left; · (first | exact Nat.le_refl _ | (simp; done) | (simp; omega) | omega)) | (with_reducible apply Below.drew) | (with_reducible apply below_drewN') | (refine Below.trans ?_ (Below.mono (by assumption) (by first | exact Nat.le_refl _ | (simp; done) | (simp; omega) | omega))) | exact Below.refl _ _ | assumption))
      case ca8R15 => (first | (simp [Act.put]; done) | (simp [Act.put, *]; done))
      try dsimp only
      refine wpW_branch [9] (by kernel_rfl) (by simp) ?_
      intro w3 hg3 hS3
      try have s := Blk.gr s hg3
      try have hj6 := hj6.below hg3 hj6.base
      try (have zz := blk2 s; obtain ⟨z0, z1, zf⟩ := zz)
      try have lz := s.lt
      refine each_cons ?_ (each_nil)
      · refine wpOp_go (by rfl) (Eq.refl _) (by go_simp; done) ?_
        intro K hK
        go_simp
        try simp only [Act.put]
        have s := Blk.new w3 55 #[.int .i64 0, .int .i64 0]
        have hzp := Below.size hS3
        try have hj6 := hj6.below ((Below.refl w3.heap.size w3).alloc (Nat.le_refl _) (.cells #[.int .i64 0, .int .i64 0] 55 (0, 0))) hj6.base
        refine hK _ _ (Below.alloc hS3 (Below.size hS3) _) ?_
        clear hK K
        refine wpW_branch [10] (by kernel_rfl) (by simp) ?_
        intro w4 hg4 hS4
        try have s := Blk.gr s hg4
        try have hj6 := hj6.below hg4 hj6.base
        try (have zz := blk2 s; obtain ⟨z0, z1, zf⟩ := zz)
        try have lz := s.lt
        refine each_cons ?_ (each_nil)
        · refine wpOp_go (by rfl) (Eq.refl _) (by go_simp; done) ?_
          intro K hK
          go_simp
          try simp only [Act.put]
          have s := (s.set_ 0 (.int .i64 r.x)).set_ 1 (.int .i64 r.z)
          refine hK _ _ (Below.set2 hS4 hzp) ?_
          clear hK K z0 z1 zf
          refine wpW_det (t' := ?ct11R16) 11 (by rfl) (by kernel_rfl) (NQ_free _) (by kernel_rfl) ?cw11R16 ?ch11R16 ?ca11R16 (Eq.refl _) ?cH11R16
          case cw11R16 => (go_simp; done)
          case ch11R16 =>
            intro ds w' hS K hK
            have hc := (bcell hS).1
            have hf := (bcell hS).2
            have hz := hS.size
            try simp at hz
            go_simp
            try go_bits
            first
              | exact hK _ hS (Gr.refl _)
              | exact hK _ (by repeat (first | (with_reducible exact Below.refl _ _) | (with_reducible assumption) | ((with_reducible refine Below.setCell ?_ ?_ _); rotate_left; · (first | exact Nat.le_refl _ | (simp; done) | (simp; omega) | omega)) | ((with_reducible refine Below.alloc ?_ ?_ _); rotate_left; · (first | exact Nat.le_refl _ | (simp; done) | (simp; omega) | omega)) | (with_reducible apply Below.drew) | (with_reducible apply below_drewN') | (refine Below.trans ?_ (Below.mono (by assumption) (by first | exact Nat.le_refl _ | (simp; done) | (simp; omega) | omega))) | exact Below.refl _ _ | assumption)) (by repeat (first | (with_reducible exact Below.refl _ _) | (with_reducible assumption) | ((with_reducible refine Below.setCell ?_ ?_ _); rotate_left; · (first | exact Nat.le_refl _ | (simp; done) | (simp; omega) | omega)) | ((with_reducible refine Below.alloc ?_ ?_ _); rotate_left; · (first | exact Nat.le_refl _ | (simp; done) | (simp; omega) | omega)) | (with_reducible apply Below.drew) | (with_reducible apply below_drewN') | (refine Below.trans ?_ (Below.mono (by assumption) (by first | exact Nat.le_refl _ | (simp; done) | (simp; omega) | omega))) | exact Below.refl _ _ | assumption))
          case ca11R16 => (first | (simp [Act.put]; done) | (simp [Act.put, *]; done))
          try dsimp only
          refine wpW_end (by kernel_rfl) ?_
          intro wE hg hS
          unfold NQ
          dsimp only
          have s := Blk.gr s hg
          exact H.out _ _ _ _ _ _ _ _ _ _ _ s hzp hS
    · refine wpOp_go (by rfl) (Eq.refl _) (by go_simp; done) ?_
      intro K hK
      go_simp
      try simp only [Act.put]
      have s := Blk.new w2 55 #[.int .i64 0, .int .i64 0]
      have hzp := Below.size hS2
      try have hj6 := hj6.below ((Below.refl w2.heap.size w2).alloc (Nat.le_refl _) (.cells #[.int .i64 0, .int .i64 0] 55 (0, 0))) hj6.base
      refine hK _ _ (Below.alloc hS2 (Below.size hS2) _) ?_
      clear hK K
      refine wpW_branch [5] (by kernel_rfl) (by simp) ?_
      intro w3 hg3 hS3
      try have s := Blk.gr s hg3
      try have hj6 := hj6.below hg3 hj6.base
      try (have zz := blk2 s; obtain ⟨z0, z1, zf⟩ := zz)
      try have lz := s.lt
      refine each_cons ?_ (each_nil)
      · refine wpOp_go (by rfl) (Eq.refl _) (by go_simp; done) ?_
        intro K hK
        go_simp
        try simp only [Act.put]
        refine (spotAt_any j face x z A6 c6 w6.heap.size _ hj6 hx hz).mono ?_
        rw [HR.out]
        unfold srC
        rintro e w8 ⟨rfl, hB8⟩
        try have s := Blk.gr s hB8
        refine hK _ _ (Below.trans hS3 (hB8.mono (Below.size hS3))) ?_
        clear hK K
        refine wpW_det (t' := ?ct6R17) 6 (by rfl) (by kernel_rfl) (NQ_free _) (by kernel_rfl) ?cw6R17 ?ch6R17 ?ca6R17 (Eq.refl _) ?cH6R17
        case cw6R17 => (go_simp; done)
        case ch6R17 =>
          intro ds w' hS K hK
          have hc := (bcell hS).1
          have hf := (bcell hS).2
          have hz := hS.size
          try simp at hz
          go_simp
          try go_bits
          first
            | exact hK _ hS (Gr.refl _)
            | exact hK _ (by repeat (first | (with_reducible exact Below.refl _ _) | (with_reducible assumption) | ((with_reducible refine Below.setCell ?_ ?_ _); rotate_left; · (first | exact Nat.le_refl _ | (simp; done) | (simp; omega) | omega)) | ((with_reducible refine Below.alloc ?_ ?_ _); rotate_left; · (first | exact Nat.le_refl _ | (simp; done) | (simp; omega) | omega)) | (with_reducible apply Below.drew) | (with_reducible apply below_drewN') | (refine Below.trans ?_ (Below.mono (by assumption) (by first | exact Nat.le_refl _ | (simp; done) | (simp; omega) | omega))) | exact Below.refl _ _ | assumption)) (by repeat (first | (with_reducible exact Below.refl _ _) | (with_reducible assumption) | ((with_reducible refine Below.setCell ?_ ?_ _); rotate_left; · (first | exact Nat.le_refl _ | (simp; done) | (simp; omega) | omega)) | ((with_reducible refine Below.alloc ?_ ?_ _); rotate_left; · (first | exact Nat.le_refl _ | (simp; done) | (simp; omega) | omega)) | (with_reducible apply Below.drew) | (with_reducible apply below_drewN') | (refine Below.trans ?_ (Below.mono (by assumption) (by first | exact Nat.le_refl _ | (simp; done) | (simp; omega) | omega))) | exact Below.refl _ _ | assumption))
        case ca6R17 => (first | (simp [Act.put]; done) | (simp [Act.put, *]; done))
        try dsimp only
        refine wpW_det (t' := ?ct7R17) 7 (by rfl) (by kernel_rfl) (NQ_free _) (by kernel_rfl) ?cw7R17 ?ch7R17 ?ca7R17 (Eq.refl _) ?cH7R17
        case cw7R17 => (go_simp; done)
        case ch7R17 =>
          intro ds w' hS K hK
          have hc := (bcell hS).1
          have hf := (bcell hS).2
          have hz := hS.size
          try simp at hz
          go_simp
          try go_bits
          first
            | exact hK _ hS (Gr.refl _)
            | exact hK _ (by repeat (first | (with_reducible exact Below.refl _ _) | (with_reducible assumption) | ((with_reducible refine Below.setCell ?_ ?_ _); rotate_left; · (first | exact Nat.le_refl _ | (simp; done) | (simp; omega) | omega)) | ((with_reducible refine Below.alloc ?_ ?_ _); rotate_left; · (first | exact Nat.le_refl _ | (simp; done) | (simp; omega) | omega)) | (with_reducible apply Below.drew) | (with_reducible apply below_drewN') | (refine Below.trans ?_ (Below.mono (by assumption) (by first | exact Nat.le_refl _ | (simp; done) | (simp; omega) | omega))) | exact Below.refl _ _ | assumption)) (by repeat (first | (with_reducible exact Below.refl _ _) | (with_reducible assumption) | ((with_reducible refine Below.setCell ?_ ?_ _); rotate_left; · (first | exact Nat.le_refl _ | (simp; done) | (simp; omega) | omega)) | ((with_reducible refine Below.alloc ?_ ?_ _); rotate_left; · (first | exact Nat.le_refl _ | (simp; done) | (simp; omega) | omega)) | (with_reducible apply Below.drew) | (with_reducible apply below_drewN') | (refine Below.trans ?_ (Below.mono (by assumption) (by first | exact Nat.le_refl _ | (simp; done) | (simp; omega) | omega))) | exact Below.refl _ _ | assumption))
        case ca7R17 => (first | (simp [Act.put]; done) | (simp [Act.put, *]; done))
        try dsimp only
        refine wpW_det (t' := ?ct8R17) 8 (by rfl) (by kernel_rfl) (NQ_free _) (by kernel_rfl) ?cw8R17 ?ch8R17 ?ca8R17 (Eq.refl _) ?cH8R17
        case cw8R17 => (go_simp; done)
        case ch8R17 =>
          intro ds w' hS K hK
          have hc := (bcell hS).1
          have hf := (bcell hS).2
          have hz := hS.size
          try simp at hz
          go_simp
          try go_bits
          first
            | exact hK _ hS (Gr.refl _)
            | exact hK _ (by repeat (first | (with_reducible exact Below.refl _ _) | (with_reducible assumption) | ((with_reducible refine Below.setCell ?_ ?_ _); rotate_left; · (first | exact Nat.le_refl _ | (simp; done) | (simp; omega) | omega)) | ((with_reducible refine Below.alloc ?_ ?_ _); rotate_left; · (first | exact Nat.le_refl _ | (simp; done) | (simp; omega) | omega)) | (with_reducible apply Below.drew) | (with_reducible apply below_drewN') | (refine Below.trans ?_ (Below.mono (by assumption) (by first | exact Nat.le_refl _ | (simp; done) | (simp; omega) | omega))) | exact Below.refl _ _ | assumption)) (by repeat (first | (with_reducible exact Below.refl _ _) | (with_reducible assumption) | ((with_reducible refine Below.setCell ?_ ?_ _); rotate_left; · (first | exact Nat.le_refl _ | (simp; done) | (simp; omega) | omega)) | ((with_reducible refine Below.alloc ?_ ?_ _); rotate_left; · (first | exact Nat.le_refl _ | (simp; done) | (simp; omega) | omega)) | (with_reducible apply Below.drew) | (with_reducible apply below_drewN') | (refine Below.trans ?_ (Below.mono (by assumption) (by first | exact Nat.le_refl _ | (simp; done) | (simp; omega) | omega))) | exact Below.refl _ _ | assumption))
        case ca8R17 => (first | (simp [Act.put]; done) | (simp [Act.put, *]; done))
        try dsimp only
        refine wpW_branch [10] (by kernel_rfl) (by simp) ?_
        intro w4 hg4 hS4
        try have s := Blk.gr s hg4
        try have hj6 := hj6.below hg4 hj6.base
        try (have zz := blk2 s; obtain ⟨z0, z1, zf⟩ := zz)
        try have lz := s.lt
        refine each_cons ?_ (each_nil)
        · refine wpOp_go (by rfl) (Eq.refl _) (by go_simp; done) ?_
          intro K hK
          go_simp
          try simp only [Act.put]
          have s := (s.set_ 0 (.int .i64 r.x)).set_ 1 (.int .i64 r.z)
          refine hK _ _ (Below.set2 hS4 hzp) ?_
          clear hK K z0 z1 zf
          refine wpW_det (t' := ?ct11R18) 11 (by rfl) (by kernel_rfl) (NQ_free _) (by kernel_rfl) ?cw11R18 ?ch11R18 ?ca11R18 (Eq.refl _) ?cH11R18
          case cw11R18 => (go_simp; done)
          case ch11R18 =>
            intro ds w' hS K hK
            have hc := (bcell hS).1
            have hf := (bcell hS).2
            have hz := hS.size
            try simp at hz
            go_simp
            try go_bits
            first
              | exact hK _ hS (Gr.refl _)
              | exact hK _ (by repeat (first | (with_reducible exact Below.refl _ _) | (with_reducible assumption) | ((with_reducible refine Below.setCell ?_ ?_ _); rotate_left; · (first | exact Nat.le_refl _ | (simp; done) | (simp; omega) | omega)) | ((with_reducible refine Below.alloc ?_ ?_ _); rotate_left; · (first | exact Nat.le_refl _ | (simp; done) | (simp; omega) | omega)) | (with_reducible apply Below.drew) | (with_reducible apply below_drewN') | (refine Below.trans ?_ (Below.mono (by assumption) (by first | exact Nat.le_refl _ | (simp; done) | (simp; omega) | omega))) | exact Below.refl _ _ | assumption)) (by repeat (first | (with_reducible exact Below.refl _ _) | (with_reducible assumption) | ((with_reducible refine Below.setCell ?_ ?_ _); rotate_left; · (first | exact Nat.le_refl _ | (simp; done) | (simp; omega) | omega)) | ((with_reducible refine Below.alloc ?_ ?_ _); rotate_left; · (first | exact Nat.le_refl _ | (simp; done) | (simp; omega) | omega)) | (with_reducible apply Below.drew) | (with_reducible apply below_drewN') | (refine Below.trans ?_ (Below.mono (by assumption) (by first | exact Nat.le_refl _ | (simp; done) | (simp; omega) | omega))) | exact Below.refl _ _ | assumption))
          case ca11R18 => (first | (simp [Act.put]; done) | (simp [Act.put, *]; done))
          try dsimp only
          refine wpW_end (by kernel_rfl) ?_
          intro wE hg hS
          unfold NQ
          dsimp only
          have s := Blk.gr s hg
          exact H.out _ _ _ _ _ _ _ _ _ _ _ s hzp hS
  · refine wpOp_go (by rfl) (Eq.refl _) (by go_simp; done) ?_
    intro K hK
    go_simp
    try simp only [Act.put]
    have s := Blk.new w1 55 #[.int .i64 0, .int .i64 0]
    have hzp := Below.size hS1
    try have hj6 := hj6.below ((Below.refl w1.heap.size w1).alloc (Nat.le_refl _) (.cells #[.int .i64 0, .int .i64 0] 55 (0, 0))) hj6.base
    refine hK _ _ (Below.alloc hS1 (Below.size hS1) _) ?_
    clear hK K
    refine wpW_branch [2] (by kernel_rfl) (by simp) ?_
    intro w2 hg2 hS2
    try have s := Blk.gr s hg2
    try have hj6 := hj6.below hg2 hj6.base
    try (have zz := blk2 s; obtain ⟨z0, z1, zf⟩ := zz)
    try have lz := s.lt
    refine each_cons ?_ (each_nil)
    · refine wpOp_go (by rfl) (Eq.refl _) (by go_simp; done) ?_
      intro K hK
      go_simp
      try simp only [Act.put]
      have hj5 := HJ.out _ hS2
      refine (copyJoint_any j A c B _ hj5 HA.out hlen).mono ?_
      rintro e w6 ⟨v, rfl, own6, hB6⟩
      obtain ⟨A6, c6, rfl, hj6, hA6⟩ := copied hj5 own6
      try have s := Blk.gr s hB6
      refine hK _ _ (Below.trans hS2 (hB6.mono (Below.size hS2))) ?_
      clear hK K own6 hj5
      refine wpW_branch [5] (by kernel_rfl) (by simp) ?_
      intro w3 hg3 hS3
      try have s := Blk.gr s hg3
      try have hj6 := hj6.below hg3 hj6.base
      try (have zz := blk2 s; obtain ⟨z0, z1, zf⟩ := zz)
      try have lz := s.lt
      refine each_cons ?_ (each_nil)
      · refine wpOp_go (by rfl) (Eq.refl _) (by go_simp; done) ?_
        intro K hK
        go_simp
        try simp only [Act.put]
        refine (spotAt_any j face x z A6 c6 w6.heap.size _ hj6 hx hz).mono ?_
        rw [HR.out]
        unfold srC
        rintro e w8 ⟨rfl, hB8⟩
        try have s := Blk.gr s hB8
        refine hK _ _ (Below.trans hS3 (hB8.mono (Below.size hS3))) ?_
        clear hK K
        refine wpW_det (t' := ?ct6R19) 6 (by rfl) (by kernel_rfl) (NQ_free _) (by kernel_rfl) ?cw6R19 ?ch6R19 ?ca6R19 (Eq.refl _) ?cH6R19
        case cw6R19 => (go_simp; done)
        case ch6R19 =>
          intro ds w' hS K hK
          have hc := (bcell hS).1
          have hf := (bcell hS).2
          have hz := hS.size
          try simp at hz
          go_simp
          try go_bits
          first
            | exact hK _ hS (Gr.refl _)
            | exact hK _ (by repeat (first | (with_reducible exact Below.refl _ _) | (with_reducible assumption) | ((with_reducible refine Below.setCell ?_ ?_ _); rotate_left; · (first | exact Nat.le_refl _ | (simp; done) | (simp; omega) | omega)) | ((with_reducible refine Below.alloc ?_ ?_ _); rotate_left; · (first | exact Nat.le_refl _ | (simp; done) | (simp; omega) | omega)) | (with_reducible apply Below.drew) | (with_reducible apply below_drewN') | (refine Below.trans ?_ (Below.mono (by assumption) (by first | exact Nat.le_refl _ | (simp; done) | (simp; omega) | omega))) | exact Below.refl _ _ | assumption)) (by repeat (first | (with_reducible exact Below.refl _ _) | (with_reducible assumption) | ((with_reducible refine Below.setCell ?_ ?_ _); rotate_left; · (first | exact Nat.le_refl _ | (simp; done) | (simp; omega) | omega)) | ((with_reducible refine Below.alloc ?_ ?_ _); rotate_left; · (first | exact Nat.le_refl _ | (simp; done) | (simp; omega) | omega)) | (with_reducible apply Below.drew) | (with_reducible apply below_drewN') | (refine Below.trans ?_ (Below.mono (by assumption) (by first | exact Nat.le_refl _ | (simp; done) | (simp; omega) | omega))) | exact Below.refl _ _ | assumption))
        case ca6R19 => (first | (simp [Act.put]; done) | (simp [Act.put, *]; done))
        try dsimp only
        refine wpW_det (t' := ?ct7R19) 7 (by rfl) (by kernel_rfl) (NQ_free _) (by kernel_rfl) ?cw7R19 ?ch7R19 ?ca7R19 (Eq.refl _) ?cH7R19
        case cw7R19 => (go_simp; done)
        case ch7R19 =>
          intro ds w' hS K hK
          have hc := (bcell hS).1
          have hf := (bcell hS).2
          have hz := hS.size
          try simp at hz
          go_simp
          try go_bits
          first
            | exact hK _ hS (Gr.refl _)
            | exact hK _ (by repeat (first | (with_reducible exact Below.refl _ _) | (with_reducible assumption) | ((with_reducible refine Below.setCell ?_ ?_ _); rotate_left; · (first | exact Nat.le_refl _ | (simp; done) | (simp; omega) | omega)) | ((with_reducible refine Below.alloc ?_ ?_ _); rotate_left; · (first | exact Nat.le_refl _ | (simp; done) | (simp; omega) | omega)) | (with_reducible apply Below.drew) | (with_reducible apply below_drewN') | (refine Below.trans ?_ (Below.mono (by assumption) (by first | exact Nat.le_refl _ | (simp; done) | (simp; omega) | omega))) | exact Below.refl _ _ | assumption)) (by repeat (first | (with_reducible exact Below.refl _ _) | (with_reducible assumption) | ((with_reducible refine Below.setCell ?_ ?_ _); rotate_left; · (first | exact Nat.le_refl _ | (simp; done) | (simp; omega) | omega)) | ((with_reducible refine Below.alloc ?_ ?_ _); rotate_left; · (first | exact Nat.le_refl _ | (simp; done) | (simp; omega) | omega)) | (with_reducible apply Below.drew) | (with_reducible apply below_drewN') | (refine Below.trans ?_ (Below.mono (by assumption) (by first | exact Nat.le_refl _ | (simp; done) | (simp; omega) | omega))) | exact Below.refl _ _ | assumption))
        case ca7R19 => (first | (simp [Act.put]; done) | (simp [Act.put, *]; done))
        try dsimp only
        refine wpW_det (t' := ?ct8R19) 8 (by rfl) (by kernel_rfl) (NQ_free _) (by kernel_rfl) ?cw8R19 ?ch8R19 ?ca8R19 (Eq.refl _) ?cH8R19
        case cw8R19 => (go_simp; done)
        case ch8R19 =>
          intro ds w' hS K hK
          have hc := (bcell hS).1
          have hf := (bcell hS).2
          have hz := hS.size
          try simp at hz
          go_simp
          try go_bits
          first
            | exact hK _ hS (Gr.refl _)
            | exact hK _ (by repeat (first | (with_reducible exact Below.refl _ _) | (with_reducible assumption) | ((with_reducible refine Below.setCell ?_ ?_ _); rotate_left; · (first | exact Nat.le_refl _ | (simp; done) | (simp; omega) | omega)) | ((with_reducible refine Below.alloc ?_ ?_ _); rotate_left; · (first | exact Nat.le_refl _ | (simp; done) | (simp; omega) | omega)) | (with_reducible apply Below.drew) | (with_reducible apply below_drewN') | (refine Below.trans ?_ (Below.mono (by assumption) (by first | exact Nat.le_refl _ | (simp; done) | (simp; omega) | omega))) | exact Below.refl _ _ | assumption)) (by repeat (first | (with_reducible exact Below.refl _ _) | (with_reducible assumption) | ((with_reducible refine Below.setCell ?_ ?_ _); rotate_left; · (first | exact Nat.le_refl _ | (simp; done) | (simp; omega) | omega)) | ((with_reducible refine Below.alloc ?_ ?_ _); rotate_left; · (first | exact Nat.le_refl _ | (simp; done) | (simp; omega) | omega)) | (with_reducible apply Below.drew) | (with_reducible apply below_drewN') | (refine Below.trans ?_ (Below.mono (by assumption) (by first | exact Nat.le_refl _ | (simp; done) | (simp; omega) | omega))) | exact Below.refl _ _ | assumption))
        case ca8R19 => (first | (simp [Act.put]; done) | (simp [Act.put, *]; done))
        try dsimp only
        refine wpW_branch [10] (by kernel_rfl) (by simp) ?_
        intro w4 hg4 hS4
        try have s := Blk.gr s hg4
        try have hj6 := hj6.below hg4 hj6.base
        try (have zz := blk2 s; obtain ⟨z0, z1, zf⟩ := zz)
        try have lz := s.lt
        refine each_cons ?_ (each_nil)
        · refine wpOp_go (by rfl) (Eq.refl _) (by go_simp; done) ?_
          intro K hK
          go_simp
          try simp only [Act.put]
          have s := (s.set_ 0 (.int .i64 r.x)).set_ 1 (.int .i64 r.z)
          refine hK _ _ (Below.set2 hS4 hzp) ?_
          clear hK K z0 z1 zf
          refine wpW_det (t' := ?ct11R20) 11 (by rfl) (by kernel_rfl) (NQ_free _) (by kernel_rfl) ?cw11R20 ?ch11R20 ?ca11R20 (Eq.refl _) ?cH11R20
          case cw11R20 => (go_simp; done)
          case ch11R20 =>
            intro ds w' hS K hK
            have hc := (bcell hS).1
            have hf := (bcell hS).2
            have hz := hS.size
            try simp at hz
            go_simp
            try go_bits
            first
              | exact hK _ hS (Gr.refl _)
              | exact hK _ (by repeat (first | (with_reducible exact Below.refl _ _) | (with_reducible assumption) | ((with_reducible refine Below.setCell ?_ ?_ _); rotate_left; · (first | exact Nat.le_refl _ | (simp; done) | (simp; omega) | omega)) | ((with_reducible refine Below.alloc ?_ ?_ _); rotate_left; · (first | exact Nat.le_refl _ | (simp; done) | (simp; omega) | omega)) | (with_reducible apply Below.drew) | (with_reducible apply below_drewN') | (refine Below.trans ?_ (Below.mono (by assumption) (by first | exact Nat.le_refl _ | (simp; done) | (simp; omega) | omega))) | exact Below.refl _ _ | assumption)) (by repeat (first | (with_reducible exact Below.refl _ _) | (with_reducible assumption) | ((with_reducible refine Below.setCell ?_ ?_ _); rotate_left; · (first | exact Nat.le_refl _ | (simp; done) | (simp; omega) | omega)) | ((with_reducible refine Below.alloc ?_ ?_ _); rotate_left; · (first | exact Nat.le_refl _ | (simp; done) | (simp; omega) | omega)) | (with_reducible apply Below.drew) | (with_reducible apply below_drewN') | (refine Below.trans ?_ (Below.mono (by assumption) (by first | exact Nat.le_refl _ | (simp; done) | (simp; omega) | omega))) | exact Below.refl _ _ | assumption))
          case ca11R20 => (first | (simp [Act.put]; done) | (simp [Act.put, *]; done))
          try dsimp only
          refine wpW_end (by kernel_rfl) ?_
          intro wE hg hS
          unfold NQ
          dsimp only
          have s := Blk.gr s hg
          exact H.out _ _ _ _ _ _ _ _ _ _ _ s hzp hS

set_option maxRecDepth 100000 in
set_option maxHeartbeats 8000000 in
/-- Whether a set-up meets the point (region 16). -/
theorem metReg16 (j : Jo) (face x z : Int) (sn : ByteArray) (s : Su) (q : Bool × Int) (A : Option Addr) (c B : Nat) (A' : Option Addr) (c' m : Nat) (w : World) (hj : JoOk j A c B w) (hE : Ends w) (hA : A = none → c = 0) (hlen : j.fs.length ≤ 1000000000) (hsn : sn.size ≤ 1000000000000) (hw : s.wf) (hx : I64 x) (hz : I64 z) (hr : isMetR j face sn s x z = q) (pb po ps : Nat)
    (b : Blk w pb 91 (plC j A c A' c' m)) (o : Blk w po 49 #[.int .i64 x, .int .i64 z]) (y : Blk w ps 44 (suC sn s)) {t0 t2 t4 t6 t7 t8 t9 t10 t11 t12 t13 t15 t16 t17 t18 t19 t20 t21 t22 t23 t24 t25 t26 t27 t28 t29 t30 t31 t32 t33 t34 t35 t36 t37 t38 t39 t40 t41 t42 t43 t44 t45 t46 t47 t48 t49 t50 t51 t52 t53 t54 t55 t56 t57 t58 t59 t60 t61 t62 t63 t64 t65 t66 t67 t68 t69 t70 t71 t72 t73 t74 t75 t76 t77 t78 t79 t80 t81 t82 t83 t84 t85 t86 t87 t88 t89 t90 t91 t92 t93 t94 t95 t96 t97 t98 t99 t100 t101 t102 t103 t104 t105 t106 t107 t108 t109 t110 t111 t112 t113 t114 t115 t116 t117 t118 t119 t120 t121 t122 t123 t124 t125 t126 t127 t128 t129 t130 t131 t132 t133 t134 t135 t136 t137 t138 t139 t140 t141 t142 t143 t144 t145 t146 t147 t148 t149 t150 t151 t152 t153 t154 t155 t156 t157 t158 t159 t160 t161 t162 t163 t164 t165 t166 t167 t168 t169 t170 t171 t172 t173 t174 t175 t176 t177 t178 t179 t180 t181 t182 t183 t184 t185 t186 t187 : Value} {ds : List Deferred} (K' : Act → World → Prop) (Q' : Exit → Act → World → Prop)
    (h : ∀ (t78 t79 t80 t81 t82 t83 t84 t85 t86 t87 t88 : Value) (w' : World), Below w.heap.size w w' → K' ⟨#[t0, .int .i64 face, t2, .pointer (some ⟨pb, 0, none⟩), t4, .pointer (some ⟨po, 0, none⟩), t6, t7, t8, t9, t10, t11, t12, t13, .pointer (some ⟨ps, 0, none⟩), .bool q.1, .int .i64 q.2, t17, t18, t19, t20, t21, t22, t23, t24, t25, t26, t27, t28, t29, t30, t31, t32, t33, t34, t35, t36, t37, t38, t39, t40, t41, t42, t43, t44, t45, t46, t47, t48, t49, t50, t51, t52, t53, t54, t55, t56, t57, t58, t59, t60, t61, t62, t63, t64, t65, t66, t67, t68, t69, t70, t71, t72, t73, t74, t75, t76, t77, t78, t79, t80, t81, t82, t83, t84, t85, t86, t87, t88, t89, t90, t91, t92, t93, t94, t95, t96, t97, t98, t99, t100, t101, t102, t103, t104, t105, t106, t107, t108, t109, t110, t111, t112, t113, t114, t115, t116, t117, t118, t119, t120, t121, t122, t123, t124, t125, t126, t127, t128, t129, t130, t131, t132, t133, t134, t135, t136, t137, t138, t139, t140, t141, t142, t143, t144, t145, t146, t147, t148, t149, t150, t151, t152, t153, t154, t155, t156, t157, t158, t159, t160, t161, t162, t163, t164, t165, t166, t167, t168, t169, t170, t171, t172, t173, t174, t175, t176, t177, t178, t179, t180, t181, t182, t183, t184, t185, t186, t187], ds⟩ w') :
    (regOf Tryz.f9 16).wp Tryz.prog (Exit.then K' Q') ⟨#[t0, .int .i64 face, t2, .pointer (some ⟨pb, 0, none⟩), t4, .pointer (some ⟨po, 0, none⟩), t6, t7, t8, t9, t10, t11, t12, t13, .pointer (some ⟨ps, 0, none⟩), t15, t16, t17, t18, t19, t20, t21, t22, t23, t24, t25, t26, t27, t28, t29, t30, t31, t32, t33, t34, t35, t36, t37, t38, t39, t40, t41, t42, t43, t44, t45, t46, t47, t48, t49, t50, t51, t52, t53, t54, t55, t56, t57, t58, t59, t60, t61, t62, t63, t64, t65, t66, t67, t68, t69, t70, t71, t72, t73, t74, t75, t76, t77, t78, t79, t80, t81, t82, t83, t84, t85, t86, t87, t88, t89, t90, t91, t92, t93, t94, t95, t96, t97, t98, t99, t100, t101, t102, t103, t104, t105, t106, t107, t108, t109, t110, t111, t112, t113, t114, t115, t116, t117, t118, t119, t120, t121, t122, t123, t124, t125, t126, t127, t128, t129, t130, t131, t132, t133, t134, t135, t136, t137, t138, t139, t140, t141, t142, t143, t144, t145, t146, t147, t148, t149, t150, t151, t152, t153, t154, t155, t156, t157, t158, t159, t160, t161, t162, t163, t164, t165, t166, t167, t168, t169, t170, t171, t172, t173, t174, t175, t176, t177, t178, t179, t180, t181, t182, t183, t184, t185, t186, t187], ds⟩ w := by
  have HJ : Hid (∀ W, Below w.heap.size w W → JoOk j A c B W) := Lib.hid fun W h => hj.below h hj.base
  have HE : Hid (∀ W, Below w.heap.size w W → Ends W) := Lib.hid fun W h => hE.below h
  have H := Lib.hid h
  have HR := Lib.hid hr
  have HA := Lib.hid hA
  clear h hj hr hA hE
  unfold plC at b
  unfold suC at y
  obtain ⟨t0, t1, t2, t3, t4⟩ := pl_cells b
  obtain ⟨u0, u1, _⟩ := blk2 o
  obtain ⟨v0, v1, v2, v3, v4, v5, v6, v7, v8, v9, _⟩ := su_all' y
  have lb := b.lt
  have lo := o.lt
  have ly := y.lt
  conv in (regOf _ _) => whnf
  refine wp_region_w (Gr _) (by kernel_rfl) (Below.refl _ _).drew ?_
  refine wpW_det (t' := ?ct0R21) 0 (by rfl) (by kernel_rfl) (NQ_free _) (by kernel_rfl) ?cw0R21 ?ch0R21 ?ca0R21 (Eq.refl _) ?cH0R21
  case cw0R21 => (go_simp; done)
  case ch0R21 =>
    intro ds w' hS K hK
    have hc := (bcell hS).1
    have hf := (bcell hS).2
    have hz := hS.size
    try simp at hz
    go_simp
    try go_bits
    first
      | exact hK _ hS (Gr.refl _)
      | exact hK _ (by repeat (first | (with_reducible exact Below.refl _ _) | (with_reducible assumption) | ((with_reducible refine Below.setCell ?_ ?_ _); rotate_left; · (first | exact Nat.le_refl _ | (simp; done) | (simp; omega) | omega)) | ((with_reducible refine Below.alloc ?_ ?_ _); rotate_left; · (first | exact Nat.le_refl _ | (simp; done) | (simp; omega) | omega)) | (with_reducible apply Below.drew) | (with_reducible apply below_drewN') | (refine Below.trans ?_ (Below.mono (by assumption) (by first | exact Nat.le_refl _ | (simp; done) | (simp; omega) | omega))) | exact Below.refl _ _ | assumption)) (by repeat (first | (with_reducible exact Below.refl _ _) | (with_reducible assumption) | ((with_reducible refine Below.setCell ?_ ?_ _); rotate_left; · (first | exact Nat.le_refl _ | (simp; done) | (simp; omega) | omega)) | ((with_reducible refine Below.alloc ?_ ?_ _); rotate_left; · (first | exact Nat.le_refl _ | (simp; done) | (simp; omega) | omega)) | (with_reducible apply Below.drew) | (with_reducible apply below_drewN') | (refine Below.trans ?_ (Below.mono (by assumption) (by first | exact Nat.le_refl _ | (simp; done) | (simp; omega) | omega))) | exact Below.refl _ _ | assumption))
  case ca0R21 => (first | (simp [Act.put]; done) | (simp [Act.put, *]; done))
  try dsimp only
  refine wpW_det (t' := ?ct1R21) 1 (by rfl) (by kernel_rfl) (NQ_free _) (by kernel_rfl) ?cw1R21 ?ch1R21 ?ca1R21 (Eq.refl _) ?cH1R21
  case cw1R21 => (go_simp; done)
  case ch1R21 =>
    intro ds w' hS K hK
    have hc := (bcell hS).1
    have hf := (bcell hS).2
    have hz := hS.size
    try simp at hz
    go_simp
    try go_bits
    first
      | exact hK _ hS (Gr.refl _)
      | exact hK _ (by repeat (first | (with_reducible exact Below.refl _ _) | (with_reducible assumption) | ((with_reducible refine Below.setCell ?_ ?_ _); rotate_left; · (first | exact Nat.le_refl _ | (simp; done) | (simp; omega) | omega)) | ((with_reducible refine Below.alloc ?_ ?_ _); rotate_left; · (first | exact Nat.le_refl _ | (simp; done) | (simp; omega) | omega)) | (with_reducible apply Below.drew) | (with_reducible apply below_drewN') | (refine Below.trans ?_ (Below.mono (by assumption) (by first | exact Nat.le_refl _ | (simp; done) | (simp; omega) | omega))) | exact Below.refl _ _ | assumption)) (by repeat (first | (with_reducible exact Below.refl _ _) | (with_reducible assumption) | ((with_reducible refine Below.setCell ?_ ?_ _); rotate_left; · (first | exact Nat.le_refl _ | (simp; done) | (simp; omega) | omega)) | ((with_reducible refine Below.alloc ?_ ?_ _); rotate_left; · (first | exact Nat.le_refl _ | (simp; done) | (simp; omega) | omega)) | (with_reducible apply Below.drew) | (with_reducible apply below_drewN') | (refine Below.trans ?_ (Below.mono (by assumption) (by first | exact Nat.le_refl _ | (simp; done) | (simp; omega) | omega))) | exact Below.refl _ _ | assumption))
  case ca1R21 => (first | (simp [Act.put]; done) | (simp [Act.put, *]; done))
  try dsimp only
  refine wpW_det (t' := ?ct3R21) 3 (by rfl) (by kernel_rfl) (NQ_free _) (by kernel_rfl) ?cw3R21 ?ch3R21 ?ca3R21 (Eq.refl _) ?cH3R21
  case cw3R21 => (go_simp; done)
  case ch3R21 =>
    intro ds w' hS K hK
    have hc := (bcell hS).1
    have hf := (bcell hS).2
    have hz := hS.size
    try simp at hz
    go_simp
    try go_bits
    first
      | exact hK _ hS (Gr.refl _)
      | exact hK _ (by repeat (first | (with_reducible exact Below.refl _ _) | (with_reducible assumption) | ((with_reducible refine Below.setCell ?_ ?_ _); rotate_left; · (first | exact Nat.le_refl _ | (simp; done) | (simp; omega) | omega)) | ((with_reducible refine Below.alloc ?_ ?_ _); rotate_left; · (first | exact Nat.le_refl _ | (simp; done) | (simp; omega) | omega)) | (with_reducible apply Below.drew) | (with_reducible apply below_drewN') | (refine Below.trans ?_ (Below.mono (by assumption) (by first | exact Nat.le_refl _ | (simp; done) | (simp; omega) | omega))) | exact Below.refl _ _ | assumption)) (by repeat (first | (with_reducible exact Below.refl _ _) | (with_reducible assumption) | ((with_reducible refine Below.setCell ?_ ?_ _); rotate_left; · (first | exact Nat.le_refl _ | (simp; done) | (simp; omega) | omega)) | ((with_reducible refine Below.alloc ?_ ?_ _); rotate_left; · (first | exact Nat.le_refl _ | (simp; done) | (simp; omega) | omega)) | (with_reducible apply Below.drew) | (with_reducible apply below_drewN') | (refine Below.trans ?_ (Below.mono (by assumption) (by first | exact Nat.le_refl _ | (simp; done) | (simp; omega) | omega))) | exact Below.refl _ _ | assumption))
  case ca3R21 => (first | (simp [Act.put]; done) | (simp [Act.put, *]; done))
  try dsimp only
  refine wpW_det (t' := ?ct4R21) 4 (by rfl) (by kernel_rfl) (NQ_free _) (by kernel_rfl) ?cw4R21 ?ch4R21 ?ca4R21 (Eq.refl _) ?cH4R21
  case cw4R21 => (go_simp; done)
  case ch4R21 =>
    intro ds w' hS K hK
    have hc := (bcell hS).1
    have hf := (bcell hS).2
    have hz := hS.size
    try simp at hz
    go_simp
    try go_bits
    first
      | exact hK _ hS (Gr.refl _)
      | exact hK _ (by repeat (first | (with_reducible exact Below.refl _ _) | (with_reducible assumption) | ((with_reducible refine Below.setCell ?_ ?_ _); rotate_left; · (first | exact Nat.le_refl _ | (simp; done) | (simp; omega) | omega)) | ((with_reducible refine Below.alloc ?_ ?_ _); rotate_left; · (first | exact Nat.le_refl _ | (simp; done) | (simp; omega) | omega)) | (with_reducible apply Below.drew) | (with_reducible apply below_drewN') | (refine Below.trans ?_ (Below.mono (by assumption) (by first | exact Nat.le_refl _ | (simp; done) | (simp; omega) | omega))) | exact Below.refl _ _ | assumption)) (by repeat (first | (with_reducible exact Below.refl _ _) | (with_reducible assumption) | ((with_reducible refine Below.setCell ?_ ?_ _); rotate_left; · (first | exact Nat.le_refl _ | (simp; done) | (simp; omega) | omega)) | ((with_reducible refine Below.alloc ?_ ?_ _); rotate_left; · (first | exact Nat.le_refl _ | (simp; done) | (simp; omega) | omega)) | (with_reducible apply Below.drew) | (with_reducible apply below_drewN') | (refine Below.trans ?_ (Below.mono (by assumption) (by first | exact Nat.le_refl _ | (simp; done) | (simp; omega) | omega))) | exact Below.refl _ _ | assumption))
  case ca4R21 => (first | (simp [Act.put]; done) | (simp [Act.put, *]; done))
  try dsimp only
  refine wpW_det (t' := ?ct5R21) 5 (by rfl) (by kernel_rfl) (NQ_free _) (by kernel_rfl) ?cw5R21 ?ch5R21 ?ca5R21 (Eq.refl _) ?cH5R21
  case cw5R21 => (go_simp; done)
  case ch5R21 =>
    intro ds w' hS K hK
    have hc := (bcell hS).1
    have hf := (bcell hS).2
    have hz := hS.size
    try simp at hz
    go_simp
    try go_bits
    first
      | exact hK _ hS (Gr.refl _)
      | exact hK _ (by repeat (first | (with_reducible exact Below.refl _ _) | (with_reducible assumption) | ((with_reducible refine Below.setCell ?_ ?_ _); rotate_left; · (first | exact Nat.le_refl _ | (simp; done) | (simp; omega) | omega)) | ((with_reducible refine Below.alloc ?_ ?_ _); rotate_left; · (first | exact Nat.le_refl _ | (simp; done) | (simp; omega) | omega)) | (with_reducible apply Below.drew) | (with_reducible apply below_drewN') | (refine Below.trans ?_ (Below.mono (by assumption) (by first | exact Nat.le_refl _ | (simp; done) | (simp; omega) | omega))) | exact Below.refl _ _ | assumption)) (by repeat (first | (with_reducible exact Below.refl _ _) | (with_reducible assumption) | ((with_reducible refine Below.setCell ?_ ?_ _); rotate_left; · (first | exact Nat.le_refl _ | (simp; done) | (simp; omega) | omega)) | ((with_reducible refine Below.alloc ?_ ?_ _); rotate_left; · (first | exact Nat.le_refl _ | (simp; done) | (simp; omega) | omega)) | (with_reducible apply Below.drew) | (with_reducible apply below_drewN') | (refine Below.trans ?_ (Below.mono (by assumption) (by first | exact Nat.le_refl _ | (simp; done) | (simp; omega) | omega))) | exact Below.refl _ _ | assumption))
  case ca5R21 => (first | (simp [Act.put]; done) | (simp [Act.put, *]; done))
  try dsimp only
  refine wpW_det (t' := ?ct6R21) 6 (by rfl) (by kernel_rfl) (NQ_free _) (by kernel_rfl) ?cw6R21 ?ch6R21 ?ca6R21 (Eq.refl _) ?cH6R21
  case cw6R21 => (go_simp; done)
  case ch6R21 =>
    intro ds w' hS K hK
    have hc := (bcell hS).1
    have hf := (bcell hS).2
    have hz := hS.size
    try simp at hz
    go_simp
    try go_bits
    first
      | exact hK _ hS (Gr.refl _)
      | exact hK _ (by repeat (first | (with_reducible exact Below.refl _ _) | (with_reducible assumption) | ((with_reducible refine Below.setCell ?_ ?_ _); rotate_left; · (first | exact Nat.le_refl _ | (simp; done) | (simp; omega) | omega)) | ((with_reducible refine Below.alloc ?_ ?_ _); rotate_left; · (first | exact Nat.le_refl _ | (simp; done) | (simp; omega) | omega)) | (with_reducible apply Below.drew) | (with_reducible apply below_drewN') | (refine Below.trans ?_ (Below.mono (by assumption) (by first | exact Nat.le_refl _ | (simp; done) | (simp; omega) | omega))) | exact Below.refl _ _ | assumption)) (by repeat (first | (with_reducible exact Below.refl _ _) | (with_reducible assumption) | ((with_reducible refine Below.setCell ?_ ?_ _); rotate_left; · (first | exact Nat.le_refl _ | (simp; done) | (simp; omega) | omega)) | ((with_reducible refine Below.alloc ?_ ?_ _); rotate_left; · (first | exact Nat.le_refl _ | (simp; done) | (simp; omega) | omega)) | (with_reducible apply Below.drew) | (with_reducible apply below_drewN') | (refine Below.trans ?_ (Below.mono (by assumption) (by first | exact Nat.le_refl _ | (simp; done) | (simp; omega) | omega))) | exact Below.refl _ _ | assumption))
  case ca6R21 => (first | (simp [Act.put]; done) | (simp [Act.put, *]; done))
  try dsimp only
  refine wpW_branch [2] (by kernel_rfl) (by simp) ?_
  intro w5 hg_w5 hS_w5
  refine each_cons ?_ each_nil
  refine wpOp_go (by rfl) (Eq.refl _) (by go_simp; done) ?_
  intro K hK
  go_simp
  try simp only [Act.put]
  have hj5 := HJ.out _ hS_w5
  refine (copyJoint_any j A c B _ hj5 HA.out hlen).mono ?_
  rintro e w6 ⟨v, rfl, own6, hB6⟩
  obtain ⟨A6, c6, rfl, hj6, hA6⟩ := copied hj5 own6
  refine hK _ _ (Below.trans hS_w5 (hB6.mono (Below.size hS_w5))) ?_
  clear hK K own6 hj5 hB6 hS_w5 hg_w5
  refine wpW_branch [7] (by kernel_rfl) (by simp) ?_
  intro w7 hg_w7 hS_w7
  refine each_cons ?_ each_nil
  refine wpOp_go (by rfl) (Eq.refl _) (by go_simp; done) ?_
  intro K hK
  go_simp
  try simp only [Act.put]
  refine (isMet_any j face sn s x z A6 c6 w6.heap.size _ (hj6.below hg_w7 (Nat.le_refl _)) (HE.out _ hS_w7) hsn hw hx hz).mono ?_
  rw [HR.out]
  rintro e w8 ⟨rfl, hB8⟩
  refine hK _ _ (Below.trans hS_w7 (hB8.mono (Below.size hS_w7))) ?_
  clear hK K hB8 hS_w7 hg_w7 hj6 hA6
  refine wpW_det (t' := ?ct8R22) 8 (by rfl) (by kernel_rfl) (NQ_free _) (by kernel_rfl) ?cw8R22 ?ch8R22 ?ca8R22 (Eq.refl _) ?cH8R22
  case cw8R22 => (go_simp; done)
  case ch8R22 =>
    intro ds w' hS K hK
    have hc := (bcell hS).1
    have hf := (bcell hS).2
    have hz := hS.size
    try simp at hz
    go_simp
    try go_bits
    first
      | exact hK _ hS (Gr.refl _)
      | exact hK _ (by repeat (first | (with_reducible exact Below.refl _ _) | (with_reducible assumption) | ((with_reducible refine Below.setCell ?_ ?_ _); rotate_left; · (first | exact Nat.le_refl _ | (simp; done) | (simp; omega) | omega)) | ((with_reducible refine Below.alloc ?_ ?_ _); rotate_left; · (first | exact Nat.le_refl _ | (simp; done) | (simp; omega) | omega)) | (with_reducible apply Below.drew) | (with_reducible apply below_drewN') | (refine Below.trans ?_ (Below.mono (by assumption) (by first | exact Nat.le_refl _ | (simp; done) | (simp; omega) | omega))) | exact Below.refl _ _ | assumption)) (by repeat (first | (with_reducible exact Below.refl _ _) | (with_reducible assumption) | ((with_reducible refine Below.setCell ?_ ?_ _); rotate_left; · (first | exact Nat.le_refl _ | (simp; done) | (simp; omega) | omega)) | ((with_reducible refine Below.alloc ?_ ?_ _); rotate_left; · (first | exact Nat.le_refl _ | (simp; done) | (simp; omega) | omega)) | (with_reducible apply Below.drew) | (with_reducible apply below_drewN') | (refine Below.trans ?_ (Below.mono (by assumption) (by first | exact Nat.le_refl _ | (simp; done) | (simp; omega) | omega))) | exact Below.refl _ _ | assumption))
  case ca8R22 => (first | (simp [Act.put]; done) | (simp [Act.put, *]; done))
  try dsimp only
  refine wpW_det (t' := ?ct9R22) 9 (by rfl) (by kernel_rfl) (NQ_free _) (by kernel_rfl) ?cw9R22 ?ch9R22 ?ca9R22 (Eq.refl _) ?cH9R22
  case cw9R22 => (go_simp; done)
  case ch9R22 =>
    intro ds w' hS K hK
    have hc := (bcell hS).1
    have hf := (bcell hS).2
    have hz := hS.size
    try simp at hz
    go_simp
    try go_bits
    first
      | exact hK _ hS (Gr.refl _)
      | exact hK _ (by repeat (first | (with_reducible exact Below.refl _ _) | (with_reducible assumption) | ((with_reducible refine Below.setCell ?_ ?_ _); rotate_left; · (first | exact Nat.le_refl _ | (simp; done) | (simp; omega) | omega)) | ((with_reducible refine Below.alloc ?_ ?_ _); rotate_left; · (first | exact Nat.le_refl _ | (simp; done) | (simp; omega) | omega)) | (with_reducible apply Below.drew) | (with_reducible apply below_drewN') | (refine Below.trans ?_ (Below.mono (by assumption) (by first | exact Nat.le_refl _ | (simp; done) | (simp; omega) | omega))) | exact Below.refl _ _ | assumption)) (by repeat (first | (with_reducible exact Below.refl _ _) | (with_reducible assumption) | ((with_reducible refine Below.setCell ?_ ?_ _); rotate_left; · (first | exact Nat.le_refl _ | (simp; done) | (simp; omega) | omega)) | ((with_reducible refine Below.alloc ?_ ?_ _); rotate_left; · (first | exact Nat.le_refl _ | (simp; done) | (simp; omega) | omega)) | (with_reducible apply Below.drew) | (with_reducible apply below_drewN') | (refine Below.trans ?_ (Below.mono (by assumption) (by first | exact Nat.le_refl _ | (simp; done) | (simp; omega) | omega))) | exact Below.refl _ _ | assumption))
  case ca9R22 => (first | (simp [Act.put]; done) | (simp [Act.put, *]; done))
  try dsimp only
  refine wpW_det (t' := ?ct10R22) 10 (by rfl) (by kernel_rfl) (NQ_free _) (by kernel_rfl) ?cw10R22 ?ch10R22 ?ca10R22 (Eq.refl _) ?cH10R22
  case cw10R22 => (go_simp; done)
  case ch10R22 =>
    intro ds w' hS K hK
    have hc := (bcell hS).1
    have hf := (bcell hS).2
    have hz := hS.size
    try simp at hz
    go_simp
    try go_bits
    first
      | exact hK _ hS (Gr.refl _)
      | exact hK _ (by repeat (first | (with_reducible exact Below.refl _ _) | (with_reducible assumption) | ((with_reducible refine Below.setCell ?_ ?_ _); rotate_left; · (first | exact Nat.le_refl _ | (simp; done) | (simp; omega) | omega)) | ((with_reducible refine Below.alloc ?_ ?_ _); rotate_left; · (first | exact Nat.le_refl _ | (simp; done) | (simp; omega) | omega)) | (with_reducible apply Below.drew) | (with_reducible apply below_drewN') | (refine Below.trans ?_ (Below.mono (by assumption) (by first | exact Nat.le_refl _ | (simp; done) | (simp; omega) | omega))) | exact Below.refl _ _ | assumption)) (by repeat (first | (with_reducible exact Below.refl _ _) | (with_reducible assumption) | ((with_reducible refine Below.setCell ?_ ?_ _); rotate_left; · (first | exact Nat.le_refl _ | (simp; done) | (simp; omega) | omega)) | ((with_reducible refine Below.alloc ?_ ?_ _); rotate_left; · (first | exact Nat.le_refl _ | (simp; done) | (simp; omega) | omega)) | (with_reducible apply Below.drew) | (with_reducible apply below_drewN') | (refine Below.trans ?_ (Below.mono (by assumption) (by first | exact Nat.le_refl _ | (simp; done) | (simp; omega) | omega))) | exact Below.refl _ _ | assumption))
  case ca10R22 => (first | (simp [Act.put]; done) | (simp [Act.put, *]; done))
  try dsimp only
  refine wpW_det (t' := ?ct11R22) 11 (by rfl) (by kernel_rfl) (NQ_free _) (by kernel_rfl) ?cw11R22 ?ch11R22 ?ca11R22 (Eq.refl _) ?cH11R22
  case cw11R22 => (go_simp; done)
  case ch11R22 =>
    intro ds w' hS K hK
    have hc := (bcell hS).1
    have hf := (bcell hS).2
    have hz := hS.size
    try simp at hz
    go_simp
    try go_bits
    first
      | exact hK _ hS (Gr.refl _)
      | exact hK _ (by repeat (first | (with_reducible exact Below.refl _ _) | (with_reducible assumption) | ((with_reducible refine Below.setCell ?_ ?_ _); rotate_left; · (first | exact Nat.le_refl _ | (simp; done) | (simp; omega) | omega)) | ((with_reducible refine Below.alloc ?_ ?_ _); rotate_left; · (first | exact Nat.le_refl _ | (simp; done) | (simp; omega) | omega)) | (with_reducible apply Below.drew) | (with_reducible apply below_drewN') | (refine Below.trans ?_ (Below.mono (by assumption) (by first | exact Nat.le_refl _ | (simp; done) | (simp; omega) | omega))) | exact Below.refl _ _ | assumption)) (by repeat (first | (with_reducible exact Below.refl _ _) | (with_reducible assumption) | ((with_reducible refine Below.setCell ?_ ?_ _); rotate_left; · (first | exact Nat.le_refl _ | (simp; done) | (simp; omega) | omega)) | ((with_reducible refine Below.alloc ?_ ?_ _); rotate_left; · (first | exact Nat.le_refl _ | (simp; done) | (simp; omega) | omega)) | (with_reducible apply Below.drew) | (with_reducible apply below_drewN') | (refine Below.trans ?_ (Below.mono (by assumption) (by first | exact Nat.le_refl _ | (simp; done) | (simp; omega) | omega))) | exact Below.refl _ _ | assumption))
  case ca11R22 => (first | (simp [Act.put]; done) | (simp [Act.put, *]; done))
  try dsimp only
  refine wpW_det (t' := ?ct12R22) 12 (by rfl) (by kernel_rfl) (NQ_free _) (by kernel_rfl) ?cw12R22 ?ch12R22 ?ca12R22 (Eq.refl _) ?cH12R22
  case cw12R22 => (go_simp; done)
  case ch12R22 =>
    intro ds w' hS K hK
    have hc := (bcell hS).1
    have hf := (bcell hS).2
    have hz := hS.size
    try simp at hz
    go_simp
    try go_bits
    first
      | exact hK _ hS (Gr.refl _)
      | exact hK _ (by repeat (first | (with_reducible exact Below.refl _ _) | (with_reducible assumption) | ((with_reducible refine Below.setCell ?_ ?_ _); rotate_left; · (first | exact Nat.le_refl _ | (simp; done) | (simp; omega) | omega)) | ((with_reducible refine Below.alloc ?_ ?_ _); rotate_left; · (first | exact Nat.le_refl _ | (simp; done) | (simp; omega) | omega)) | (with_reducible apply Below.drew) | (with_reducible apply below_drewN') | (refine Below.trans ?_ (Below.mono (by assumption) (by first | exact Nat.le_refl _ | (simp; done) | (simp; omega) | omega))) | exact Below.refl _ _ | assumption)) (by repeat (first | (with_reducible exact Below.refl _ _) | (with_reducible assumption) | ((with_reducible refine Below.setCell ?_ ?_ _); rotate_left; · (first | exact Nat.le_refl _ | (simp; done) | (simp; omega) | omega)) | ((with_reducible refine Below.alloc ?_ ?_ _); rotate_left; · (first | exact Nat.le_refl _ | (simp; done) | (simp; omega) | omega)) | (with_reducible apply Below.drew) | (with_reducible apply below_drewN') | (refine Below.trans ?_ (Below.mono (by assumption) (by first | exact Nat.le_refl _ | (simp; done) | (simp; omega) | omega))) | exact Below.refl _ _ | assumption))
  case ca12R22 => (first | (simp [Act.put]; done) | (simp [Act.put, *]; done))
  try dsimp only
  refine wpW_end (by kernel_rfl) ?_
  intro wE hg hS
  unfold NQ
  dsimp only
  exact H.out _ _ _ _ _ _ _ _ _ _ _ _ hS
end Go.Proofs.YtfbnpfhnffahdaaGreatDoor

namespace Go.Proofs.YtfbnpfhnffahdaaGreatDoor
open Go.RowKit

theorem blk4c {w : World} {g t : Nat} {v0 v1 v2 v3 : Value} (h : Blk w g t #[v0, v1, v2, v3]) : w.cell? ⟨g, 0, none⟩ = some v0 ∧ w.cell? ⟨g, 1, none⟩ = some v1 ∧ w.cell? ⟨g, 2, none⟩ = some v2 ∧ w.cell? ⟨g, 3, none⟩ = some v3 := ⟨h.cell 0, h.cell 1, h.cell 2, h.cell 3⟩
theorem coveredB_all {j : Jo} {l : List (ByteArray × Su)} (h : coveredB j l = true) : fewB j = true ∧ l.length ≤ 5 ∧ (jointE j).2 = 0 ∧ setupsE l = 0 := by
  unfold coveredB at h
  simp only [Bool.and_eq_true, decide_eq_true_eq] at h
  exact ⟨h.1.1.1, h.1.1.2, h.1.2, h.2⟩
theorem setupE_name {nm : ByteArray} {s : Su} (h : setupE nm s = 0) : nm.size ≤ 12 := by
  unfold setupE at h
  split at h
  · simp at h
  · rename_i hn
    exact nameB_long (by simpa using hn)
theorem good_all {j : Jo} {l : List (ByteArray × Su)} {ps : List GP} {k : Nat} (h0 : openFaceE j k = 0) (h1 : setupsE l = 0) (hps : ps.map Subtype.val = partsV j k l) : ∀ p ∈ ps, p.1.good := by
  intro p hp
  have : p.1 ∈ ps.map Subtype.val := List.mem_map_of_mem hp
  rw [hps] at this
  unfold partsV at this
  obtain ⟨q, hq, he⟩ := List.mem_map.1 this
  rw [← he]
  exact metV_good (lim_at h0 ((setupsE_zero h1).2 q hq))
theorem met_take {j : Jo} {k : Nat} {l : List (ByteArray × Su)} {n m : Int} (i : Nat) (hi : i < l.length) : ((l.take (i + 1)).any fun p => (metV j.thick (faceAt j k) p.2).has n m) = (((l.take i).any fun p => (metV j.thick (faceAt j k) p.2).has n m) || (metV j.thick (faceAt j k) l[i].2).has n m) := any_take_snoc l i hi _
theorem metAny_map {j : Jo} {k : Nat} {l : List (ByteArray × Su)} {ps : List GP} {n m : Int} (hps : ps.map Subtype.val = partsV j k l) : metAny ps n m = l.any fun p => (metV j.thick (faceAt j k) p.2).has n m := by
  have : metAny ps n m = (ps.map Subtype.val).any fun p => p.has n m := by unfold metAny; rw [List.any_map]; rfl
  rw [this, hps]
  unfold partsV
  rw [List.any_map]
  rfl
theorem isMetR_in {j : Jo} {k : Nat} {p : ByteArray × Su} {n m : Int} (h0 : openFaceE j k = 0) (h1 : setupE p.1 p.2 = 0) (h2 : ptE n m = 0) : isMetR j k p.1 p.2 n m = ((metV j.thick (faceAt j k) p.2).has n m, 0) := by
  refine isMetR_yes ?_ h2
  unfold askE
  rw [if_pos h0]
  exact h1
theorem at_small {a b n d : Int} (ha : -20000 ≤ a ∧ a ≤ 20000) (hb : -20000 ≤ b ∧ b ≤ 20000) (hn : 0 ≤ n) (hnd : n ≤ d) (hd : 0 < d) : -20001 ≤ atV a b n d ∧ atV a b n d ≤ 20001 := by
  unfold atV rndV
  have h1 : a * d + (b - a) * n = a * (d - n) + b * n := by grind
  rw [h1]
  have l1 : -20000 * (d - n) ≤ a * (d - n) := Int.mul_le_mul_of_nonneg_right (by omega) (by omega)
  have l2 : a * (d - n) ≤ 20000 * (d - n) := Int.mul_le_mul_of_nonneg_right (by omega) (by omega)
  have l3 : -20000 * n ≤ b * n := Int.mul_le_mul_of_nonneg_right (by omega) (by omega)
  have l4 : b * n ≤ 20000 * n := Int.mul_le_mul_of_nonneg_right (by omega) (by omega)
  generalize a * (d - n) = X at *
  generalize b * n = Y at *
  constructor
  · have : -20001 * (2 * d) ≤ 2 * (X + Y) + d := by omega
    exact (Int.le_ediv_iff_mul_le (by omega)).2 this
  · have : 2 * (X + Y) + d < (20001 + 1) * (2 * d) := by omega
    have := (Int.ediv_lt_iff_lt_mul (by omega)).2 this
    omega

set_option maxRecDepth 100000 in
set_option maxHeartbeats 8000000 in
theorem topEvery_any (j : Jo) (l : List (ByteArray × Su)) (A : Option Addr) (c B : Nat) (A' : Option Addr) (c' : Nat) (face n m : Int) (w : World) (hn : j.fs.length ≤ c) (hc : c ≤ 9223372036854775807) (hR : Row w B 5 A j.fs.length (fcsC j.fs)) (hB : B ≤ w.heap.size) (hA : A = none → c = 0)
    (hn' : l.length ≤ c') (hc' : c' ≤ 9223372036854775807) (hR' : Row w B 10 A' l.length (sucsC l)) (hA' : A' = none → c' = 0) (hw : ∀ p ∈ l, p.2.wf) (hsz : ∀ p ∈ l, p.1.size ≤ 9223372036854775807) (hnn : I64 n) (hmm : I64 m) (hE : Ends w) :
    Calls Tryz.prog 9 #[.agg (plC j A c A' c' l.length), .int .i64 face, .agg #[.int .i64 n, .int .i64 m]] w fun e w' => e = .returned (.bool true) ∧ Below w.heap.size w w' := by
  have hBB : Below w.heap.size w ((w.alloc (.cells (plC j A c A' c' l.length) 91)).alloc (.cells #[.int .i64 n, .int .i64 m] 49)) := ((Below.refl _ _).alloc (Nat.le_refl _) _).alloc (by simp) _
  have HE : Hid (∀ W, Below w.heap.size w W → Ends W) := Lib.hid fun W h => hE.below h
  have HR := Lib.hid (fun W (h : Below w.heap.size w W) => hR.below h hB)
  have HR' := Lib.hid (fun W (h : Below w.heap.size w W) => hR'.below h hB)
  have HA := Lib.hid hA
  have HA' := Lib.hid hA'
  clear hE hR hR' hA hA'
  have b := (Blk.new w 91 (plC j A c A' c' l.length)).alloc (.cells #[.int .i64 n, .int .i64 m] 49 (0, 0))
  have o := Blk.new' (w.alloc (.cells (plC j A c A' c' l.length) 91)) 49 #[.int .i64 n, .int .i64 m] (g := w.heap.size + 1) (by simp)
  unfold plC at *
  go_enter Tryz.func9, Tryz.ntmps9
  have l_b := b.lt
  obtain ⟨t0, t1, t2, t3, t4⟩ := pl_cells b
  have l_o := o.lt
  obtain ⟨u0, u1, _⟩ := blk2 o
  go_wp2_with fail
  refine (covering_any _ (HE.out _ hBB)).mono ?_
  rintro e wc1 ⟨rfl, hBc1⟩
  replace b := b.gr hBc1
  replace o := o.gr hBc1
  replace hBB := hBB.trans (Below.mono hBc1 (Below.size hBB))
  clear hBc1
  clear l_b t0 t1 t2 t3 t4 l_o u0 u1
  have l_b := b.lt
  have l_o := o.lt
  obtain ⟨t0, t1, t2, t3, t4⟩ := pl_cells b
  obtain ⟨u0, u1, _⟩ := blk2 o
  cases hcv : coveredB j l
  case false =>
    go_wp2_with fail
    refine (covered_any j l A c B A' c' _ hn hc (HR.out _ hBB) (Nat.le_trans hB (Below.size hBB)) hn' hc' (HR'.out _ hBB) hw hsz).mono ?_
    rw [hcv]
    rintro e wc2 ⟨rfl, hBc2⟩
    replace b := b.gr hBc2
    replace o := o.gr hBc2
    replace hBB := hBB.trans (Below.mono hBc2 (Below.size hBB))
    clear hBc2
    clear l_b t0 t1 t2 t3 t4 l_o u0 u1
    have l_b := b.lt
    have l_o := o.lt
    obtain ⟨t0, t1, t2, t3, t4⟩ := pl_cells b
    obtain ⟨u0, u1, _⟩ := blk2 o
    go_wp2
    go_ret
    exact ⟨rfl, hBB⟩
  go_wp2_with fail
  refine (covered_any j l A c B A' c' _ hn hc (HR.out _ hBB) (Nat.le_trans hB (Below.size hBB)) hn' hc' (HR'.out _ hBB) hw hsz).mono ?_
  rw [hcv]
  rintro e wc3 ⟨rfl, hBc3⟩
  replace b := b.gr hBc3
  replace o := o.gr hBc3
  replace hBB := hBB.trans (Below.mono hBc3 (Below.size hBB))
  clear hBc3
  clear l_b t0 t1 t2 t3 t4 l_o u0 u1
  have l_b := b.lt
  have l_o := o.lt
  obtain ⟨t0, t1, t2, t3, t4⟩ := pl_cells b
  obtain ⟨u0, u1, _⟩ := blk2 o
  obtain ⟨hf, hl5, hj0, hs0⟩ := coveredB_all hcv
  obtain ⟨f1, f2, f3⟩ := fewB_all hf
  have HJ : Hid (∀ W, Below w.heap.size w W → JoOk j A c B W) := Lib.hid fun W h => JoOk.mk_ f3 f2 hn hc (HR.out W h) (Nat.le_trans hB (Below.size h))
  have hsz : ∀ p ∈ l, p.1.size ≤ 1000000000000 := fun p hp => by have := setupE_name ((setupsE_zero hs0).2 p hp); omega
  have HS : Hid (∀ W, Below w.heap.size w W → SuOk l A' c' B W) := Lib.hid fun W h => ⟨hsz, hw, hn', hc', HR'.out W h, Nat.le_trans hB (Below.size h)⟩
  clear f2 f3 hf hcv HR HR'
  cases hwf : wi face 0 (j.fs.length - 1)
  case false =>
    have HW := Lib.hid hwf; clear hwf
    go_wp2_with fail
    refine (hasFace_any j face A c _ (by omega)).mono ?_
    rw [HW.out]
    rintro e wc4 ⟨rfl, hBc4⟩
    replace b := b.gr hBc4
    replace o := o.gr hBc4
    replace hBB := hBB.trans (Below.mono hBc4 (Below.size hBB))
    clear hBc4
    clear l_b t0 t1 t2 t3 t4 l_o u0 u1
    have l_b := b.lt
    have l_o := o.lt
    obtain ⟨t0, t1, t2, t3, t4⟩ := pl_cells b
    obtain ⟨u0, u1, _⟩ := blk2 o
    go_wp2
    go_ret
    exact ⟨rfl, hBB⟩
  have hof : openFaceE j face = 0 := by unfold openFaceE; rw [if_pos hj0, if_pos hwf]
  have HW := Lib.hid hwf; clear hwf
  by_cases hpt : ptE n m = 0
  case neg =>
    have h3 : (ptE n m != 0) = true := by simpa using hpt
    go_wp2_with fail
    refine (hasFace_any j face A c _ (by omega)).mono ?_
    rw [HW.out]
    rintro e wc5 ⟨rfl, hBc5⟩
    replace b := b.gr hBc5
    replace o := o.gr hBc5
    replace hBB := hBB.trans (Below.mono hBc5 (Below.size hBB))
    clear hBc5
    clear l_b t0 t1 t2 t3 t4 l_o u0 u1
    have l_b := b.lt
    have l_o := o.lt
    obtain ⟨t0, t1, t2, t3, t4⟩ := pl_cells b
    obtain ⟨u0, u1, _⟩ := blk2 o
    go_wp2_with fail
    refine (rPointErr_any n m hnn hmm _).mono ?_
    rintro e wc6 ⟨rfl, hBc6⟩
    replace b := b.gr hBc6
    replace o := o.gr hBc6
    replace hBB := hBB.trans (Below.mono hBc6 (Below.size hBB))
    clear hBc6
    clear l_b t0 t1 t2 t3 t4 l_o u0 u1
    have l_b := b.lt
    have l_o := o.lt
    obtain ⟨t0, t1, t2, t3, t4⟩ := pl_cells b
    obtain ⟨u0, u1, _⟩ := blk2 o
    go_wp2
    go_ret
    exact ⟨rfl, hBB⟩
  have h3 : (ptE n m != 0) = false := by simpa using hpt
  go_wp2_with fail
  refine (hasFace_any j face A c _ (by omega)).mono ?_
  rw [HW.out]
  rintro e wc7 ⟨rfl, hBc7⟩
  replace b := b.gr hBc7
  replace o := o.gr hBc7
  replace hBB := hBB.trans (Below.mono hBc7 (Below.size hBB))
  clear hBc7
  clear l_b t0 t1 t2 t3 t4 l_o u0 u1
  have l_b := b.lt
  have l_o := o.lt
  obtain ⟨t0, t1, t2, t3, t4⟩ := pl_cells b
  obtain ⟨u0, u1, _⟩ := blk2 o
  go_wp2_with fail
  refine (rPointErr_any n m hnn hmm _).mono ?_
  rintro e wc8 ⟨rfl, hBc8⟩
  replace b := b.gr hBc8
  replace o := o.gr hBc8
  replace hBB := hBB.trans (Below.mono hBc8 (Below.size hBB))
  clear hBc8
  clear l_b t0 t1 t2 t3 t4 l_o u0 u1
  have l_b := b.lt
  have l_o := o.lt
  obtain ⟨t0, t1, t2, t3, t4⟩ := pl_cells b
  obtain ⟨u0, u1, _⟩ := blk2 o
  obtain ⟨P, hP⟩ := planesG j l hj0 hs0
  obtain ⟨_, k, rfl, hk, hfa⟩ := openFaceE_zero hof
  obtain ⟨hPk, hPl⟩ := hP k hk
  obtain ⟨p1, p2, p3, p4, p5⟩ := ptE_zero hpt
  go_upto_region 5 with fail
  refine planReg5 j l P A c B A' c' _ (HJ.out _ hBB) (HS.out _ hBB) (HE.out _ hBB) HA.out HA'.out hj0 hs0 hP _ b _ _ ?_
  intro gi ga gb gc gd er pg _ _ _ _ _ _ _ _ _ _ _ w5 hcp z hpg hB5
  try dsimp only
  have HCP := Lib.hid hcp
  replace b := b.gr hB5
  replace o := o.gr hB5
  replace hBB := hBB.trans (Below.mono hB5 (Below.size hBB))
  clear hB5 hcp hpg
  have her : er = 0 ∨ er = 14 := by rcases HCP.out with ⟨_, _, _, h, _⟩ | ⟨h, _⟩; exact .inr h; exact .inl h
  clear l_b t0 t1 t2 t3 t4 l_o u0 u1
  go_upto_region 6 with fail
  go_cut [54] (fun s54 wx => s54 = .bool false ∧ wx = w5)
  case first =>
    rcases her with rfl | rfl
    · go_wp2
      go_meet
      exact ⟨rfl, rfl⟩
    · go_wp2
      go_meet
      exact ⟨rfl, rfl⟩
  case rest =>
  obtain ⟨rfl, rfl⟩ := hcut
  have hpl := plOk_of hj0 hk
  obtain ⟨a1, a2, a3, a4, a5, a6, a7, a8, _⟩ := hpl
  obtain ⟨ht1, ht2, _, _, hlen, _⟩ := jointE_zero hj0
  have bx := at_small (a := j.fs[k].2.fx) (b := j.fs[k].2.tx) ⟨a1, a2⟩ ⟨a3, a4⟩ p1 p2 p3
  have bz := at_small (a := j.fs[k].2.fz) (b := j.fs[k].2.tz) ⟨by omega, by omega⟩ ⟨by omega, by omega⟩ p1 p2 p3
  have hsp : spotR j k n m = ⟨atV j.fs[k].2.fx j.fs[k].2.tx n m, atV j.fs[k].2.fz j.fs[k].2.tz n m, 0⟩ := by unfold spotR; rw [if_pos hof, if_pos hpt, hfa]
  have HST : Hid (∀ p ∈ l, p.2.legs = 1 → m = 1 → (metV j.thick (faceAt j k) p.2).has n m = true → 1 ≤ atV j.fs[k].2.fz j.fs[k].2.tz n m → 0 ≤ p.2.side * (atV j.fs[k].2.fx j.fs[k].2.tx n m - p.2.at_) ∧ steepB (p.2.side * (atV j.fs[k].2.fx j.fs[k].2.tx n m - p.2.at_)) (atV j.fs[k].2.fz j.fs[k].2.tz n m) p.2.ln p.2.ld p.2.mn p.2.md = true) := Lib.hid (by
    intro p hp hl1 hm1 hh hd
    subst hm1
    obtain ⟨_, _, _, _, h5, _⟩ := setupE_zero ((setupsE_zero hs0).2 p hp)
    rw [hfa] at hh
    exact steep_met p1 hl1 hh h5 hd)
  generalize atV j.fs[k].2.fx j.fs[k].2.tx n m = X at *
  generalize atV j.fs[k].2.fz j.fs[k].2.tz n m = Z at *
  go_upto_region 8 with fail
  refine spotReg8 j k n m ⟨X, Z, 0⟩ A c B A' c' l.length _ (HJ.out _ hBB) HA.out (by omega) hnn hmm hsp _ _ b o _ _ ?_
  intro ps _ _ _ _ _ _ _ _ _ w8 t hps hB8
  try dsimp only
  replace b := b.gr hB8
  replace o := o.gr hB8
  replace z := z.gr hB8
  replace hBB := hBB.trans (Below.mono hB8 (Below.size hBB))
  clear hB8 hps hsp
  have HALL := Lib.hid ((setupsE_zero hs0).2)
  have HMet := Lib.hid (fun p (hp : p ∈ l) => isMetR_in hof ((setupsE_zero hs0).2 p hp) hpt)
  dsimp only at t
  go_wp2
  go_loopw [12, 13] (fun s12 i wr => ∃ (q : Nat) (kb : Bool), q ≤ l.length ∧ i = .int .i64 q ∧ s12 = .bool kb ∧ Hid (kb = (l.take q).any fun p => (metV j.thick (faceAt j k) p.2).has n m) ∧
    Blk wr w.heap.size 91 #[.string j.nm, .int .i64 j.thick, .int .i64 j.zone, .slice A j.fs.length c, .slice A' l.length c'] ∧ Blk wr (w.heap.size + 1) 49 #[.int .i64 n, .int .i64 m] ∧ Blk wr pg 51 #[.int .i64 ga, .int .i64 gb, .int .i64 gc, .int .i64 gd] ∧ Blk wr ps 55 #[.int .i64 X, .int .i64 Z] ∧ Below w.heap.size w wr) (fun _ i _ => l.length - (intOf i).toNat)
  case atStart => exact ⟨0, false, Nat.zero_le _, rfl, rfl, Lib.hid rfl, b, o, z, t, hBB⟩
  case round =>
    clear b o z t hBB
    obtain ⟨q, kb, hq, rfl, rfl, HKB, b, o, z, t, hBB⟩ := hrel
    have l_b := b.lt
    obtain ⟨t0, t1, t2, t3, t4⟩ := pl_cells b
    have l_o := o.lt
    obtain ⟨u0, u1, _⟩ := blk2 o
    have l_z := z.lt
    obtain ⟨v0, v1, v2, v3⟩ := blk4c z
    have l_t := t.lt
    obtain ⟨s0, s1, _⟩ := blk2 t
    by_cases hlt : q < l.length
    · obtain ⟨g, og, hAA, hg, c0, c1, c2, c3, c4, c5, c6, c7, c8, c9⟩ := suCells (HS.out _ hBB).row hlt
      have hgg := (HS.out _ hBB).base
      have lg : g < wr.heap.size := by omega
      subst hAA
      have hqc : (q : Int) < (l.length : Int) := by omega
      have hq0 : (0 : Int) ≤ (q : Int) := by omega
      have hmem := List.getElem_mem hlt
      have hse := HALL.out _ hmem
      obtain ⟨e1, e2, e3, e4, e5, e6, e7, e8⟩ := setupE_zero hse
      have HM := Lib.hid (HMet.out _ hmem)
      have HT := Lib.hid (HST.out _ hmem)
      have HTK := Lib.hid (met_take (j := j) (k := k) (n := n) (m := m) q hlt)
      have hwq := hw _ hmem
      have hsq := hsz _ hmem
      clear hse hmem
      generalize hpq : l[q] = pq at *
      obtain ⟨sn, s⟩ := pq
      dsimp only at *
      go_upto_region 16 with fail
      have y := Blk.new wr 44 #[.string sn, .int .i64 s.at_, .int .i64 s.side, .int .i64 s.legs, .int .i64 s.ln, .int .i64 s.ld, .int .i64 s.mn, .int .i64 s.md, .int .i64 s.tn, .int .i64 s.td]
      replace b := b.alloc (.cells #[.string sn, .int .i64 s.at_, .int .i64 s.side, .int .i64 s.legs, .int .i64 s.ln, .int .i64 s.ld, .int .i64 s.mn, .int .i64 s.md, .int .i64 s.tn, .int .i64 s.td] 44 (0, 0))
      replace o := o.alloc (.cells #[.string sn, .int .i64 s.at_, .int .i64 s.side, .int .i64 s.legs, .int .i64 s.ln, .int .i64 s.ld, .int .i64 s.mn, .int .i64 s.md, .int .i64 s.tn, .int .i64 s.td] 44 (0, 0))
      replace z := z.alloc (.cells #[.string sn, .int .i64 s.at_, .int .i64 s.side, .int .i64 s.legs, .int .i64 s.ln, .int .i64 s.ld, .int .i64 s.mn, .int .i64 s.md, .int .i64 s.tn, .int .i64 s.td] 44 (0, 0))
      replace t := t.alloc (.cells #[.string sn, .int .i64 s.at_, .int .i64 s.side, .int .i64 s.legs, .int .i64 s.ln, .int .i64 s.ld, .int .i64 s.mn, .int .i64 s.md, .int .i64 s.tn, .int .i64 s.td] 44 (0, 0))
      replace hBB := hBB.alloc (Below.size hBB) (.cells #[.string sn, .int .i64 s.at_, .int .i64 s.side, .int .i64 s.legs, .int .i64 s.ln, .int .i64 s.ld, .int .i64 s.mn, .int .i64 s.md, .int .i64 s.tn, .int .i64 s.td] 44 (0, 0))
      clear l_b t0 t1 t2 t3 t4 l_o u0 u1 l_z v0 v1 v2 v3 l_t s0 s1
      have l_b := b.lt
      have l_o := o.lt
      have l_z := z.lt
      have l_t := t.lt
      have l_y := y.lt
      obtain ⟨t0, t1, t2, t3, t4⟩ := pl_cells b
      obtain ⟨u0, u1, _⟩ := blk2 o
      obtain ⟨v0, v1, v2, v3⟩ := blk4c z
      obtain ⟨s0, s1, _⟩ := blk2 t
      generalize (wr.alloc (.cells #[.string sn, .int .i64 s.at_, .int .i64 s.side, .int .i64 s.legs, .int .i64 s.ln, .int .i64 s.ld, .int .i64 s.mn, .int .i64 s.md, .int .i64 s.tn, .int .i64 s.td] 44)) = wy at *
      clear l_b t0 t1 t2 t3 t4 l_o u0 u1 l_z v0 v1 v2 v3 l_t s0 s1 l_y
      obtain ⟨mt, HMT⟩ : ∃ mt, Hid ((metV j.thick (faceAt j k) s).has n m = mt) := ⟨_, Lib.hid rfl⟩
      rw [HMT.out] at HM HT HTK
      refine metReg16 j k n m sn s (mt, 0) A c B _ c' l.length _ (HJ.out _ hBB) (HE.out _ hBB) HA.out (by omega) hsq hwq hnn hmm HM.out _ _ _ b o y _ _ ?_
      intro _ _ _ _ _ _ _ _ _ _ _ w16 hB16
      try dsimp only
      replace b := b.gr hB16
      replace o := o.gr hB16
      replace z := z.gr hB16
      replace t := t.gr hB16
      replace y := y.gr hB16
      replace hBB := hBB.trans (Below.mono hB16 (Below.size hBB))
      clear hB16 HM
      go_upto_region 19 with fail
      go_cut [12] (fun s12 wx => ∃ kb' : Bool, s12 = .bool kb' ∧ Hid (kb' = (kb || mt)) ∧ wx = w16)
      case first =>
        cases kb
        · go_wp2
          go_meet
          exact ⟨_, rfl, Lib.hid rfl, rfl⟩
        · go_wp2
          go_meet
          exact ⟨_, rfl, Lib.hid rfl, rfl⟩
      case rest =>
      obtain ⟨kb', rfl, HK2, rfl⟩ := hcut
      have hXa : -40001 ≤ X - s.at_ ∧ X - s.at_ ≤ 40001 := by omega
      have hac : -40001 ≤ s.side * (X - s.at_) ∧ s.side * (X - s.at_) ≤ 40001 := by rcases e3 with h | h <;> rw [h] <;> omega
      obtain ⟨z0', z1', zf'⟩ : True ∧ True ∧ True := ⟨trivial, trivial, trivial⟩
      have yc := su_all' y
      obtain ⟨y0, y1, y2, y3, y4, y5, y6, y7, y8, y9, _⟩ := yc
      have ly := y.lt
      obtain ⟨s0, s1, _⟩ := blk2 t
      have lt_ := t.lt
      go_upto_region 20 with fail
      go_quiet (fail)
      go_upto_region 21 with fail
      generalize hacd : s.side * (X - s.at_) = ac at *
      go_cut [123] (fun s123 wx => s123 = .bool (mt && (decide (s.legs = 1) && (decide (m = 1) && (wi ac (-1000) 1000 && wi Z 1 1000)))) ∧ Blk wx w.heap.size 91 #[.string j.nm, .int .i64 j.thick, .int .i64 j.zone, .slice A j.fs.length c, .slice (some ⟨g, og, none⟩) l.length c'] ∧ Blk wx (w.heap.size + 1) 49 #[.int .i64 n, .int .i64 m] ∧ Blk wx pg 51 #[.int .i64 ga, .int .i64 gb, .int .i64 gc, .int .i64 gd] ∧ Blk wx ps 55 #[.int .i64 X, .int .i64 Z] ∧ Blk wx wr.heap.size 44 (suC sn s) ∧ Below w.heap.size w wx)
      case first =>
        obtain ⟨u0, u1, _⟩ := blk2 o
        have lo := o.lt
        have fin : ∀ k : Nat, Blk (wc.drewN k) w.heap.size 91 #[.string j.nm, .int .i64 j.thick, .int .i64 j.zone, .slice A j.fs.length c, .slice (some ⟨g, og, none⟩) l.length c'] ∧ Blk (wc.drewN k) (w.heap.size + 1) 49 #[.int .i64 n, .int .i64 m] ∧ Blk (wc.drewN k) pg 51 #[.int .i64 ga, .int .i64 gb, .int .i64 gc, .int .i64 gd] ∧ Blk (wc.drewN k) ps 55 #[.int .i64 X, .int .i64 Z] ∧ Blk (wc.drewN k) wr.heap.size 44 (suC sn s) ∧ Below w.heap.size w (wc.drewN k) := fun k => ⟨b.drewN k, o.drewN k, z.drewN k, t.drewN k, y.drewN k, below_drewN' hBB k⟩
        have FIN := Lib.hid fin
        clear fin
        cases mt
        · go_wp2
          go_meet
          exact ⟨rfl, FIN.out _⟩
        · by_cases l1 : s.legs = 1
          case neg =>
            have l1' : (s.legs == 1) = false := by simpa using l1
            go_wp2
            go_meet
            exact ⟨by rw [decide_eq_false l1]; rfl, FIN.out _⟩
          have l1' : (s.legs == 1) = true := by simpa using l1
          by_cases m1 : m = 1
          case neg =>
            have m1' : (m == 1) = false := by simpa using m1
            go_wp2
            go_meet
            exact ⟨by rw [decide_eq_true l1, decide_eq_false m1]; rfl, FIN.out _⟩
          have m1' : (m == 1) = true := by simpa using m1
          have M1 := Lib.hid m1
          clear m1
          cases w1 : wi ac (-1000) 1000
          · have W1 := Lib.hid w1; clear w1
            go_wp2_with (go_at_call 20; refine (bWithin_any _ _ _ _).mono ?_; rw [W1.out]; rintro e w1 ⟨rfl, rfl⟩)
            go_meet
            exact ⟨by rw [decide_eq_true l1, decide_eq_true M1.out, W1.out]; rfl, FIN.out _⟩
          · have W1 := Lib.hid w1; clear w1
            cases w2 : wi Z 1 1000
            · have W2 := Lib.hid w2; clear w2
              go_wp2_with (go_at_call 20; refine (bWithin_any _ _ _ _).mono ?_; first | rw [W1.out] | rw [W2.out]; rintro e w1 ⟨rfl, rfl⟩)
              go_meet
              exact ⟨by rw [decide_eq_true l1, decide_eq_true M1.out, W1.out, W2.out]; rfl, FIN.out _⟩
            · have W2 := Lib.hid w2; clear w2
              go_wp2_with (go_at_call 20; refine (bWithin_any _ _ _ _).mono ?_; first | rw [W1.out] | rw [W2.out]; rintro e w1 ⟨rfl, rfl⟩)
              go_meet
              exact ⟨by rw [decide_eq_true l1, decide_eq_true M1.out, W1.out, W2.out]; rfl, FIN.out _⟩
      case rest =>
      clear b o z t y hBB y0 y1 y2 y3 y4 y5 y6 y7 y8 y9 ly s0 s1 lt_
      obtain ⟨rfl, b, o, z, t, y, hBB⟩ := hcut
      go_upto_if 123 with fail
      have HFT : Hid (kb' = (l.take (q + 1)).any fun p => (metV j.thick (faceAt j k) p.2).has n m) := Lib.hid (by rw [HK2.out, HKB.out]; exact HTK.out.symm)
      cases hT : (mt && (decide (s.legs = 1) && (decide (m = 1) && (wi ac (-1000) 1000 && wi Z 1 1000))))
      · go_wp2
        exact ⟨⟨q + 1, kb', by omega, by go_num, rfl, HFT, b, o, z, t, hBB⟩, by simp [intOf]; omega⟩
      · simp only [Bool.and_eq_true, decide_eq_true_eq] at hT
        obtain ⟨hmt, hl1, hm1, hw1, hw2⟩ := hT
        have hac1 : -1000 ≤ ac ∧ ac ≤ 1000 := by simpa [wi] using hw1
        have hz1 : 1 ≤ Z ∧ Z ≤ 1000 := by simpa [wi] using hw2
        obtain ⟨hs1, hs2⟩ := HT.out hl1 hm1 hmt hz1.1
        have hs3 : ¬ ac < 0 := by omega
        have HS2 := Lib.hid hs2
        clear hs2 hw1 hw2 hm1 hl1 hmt
        have yc := su_all' y
        obtain ⟨y0, y1, y2, y3, y4, y5, y6, y7, y8, y9, _⟩ := yc
        have ly := y.lt
        go_wp2_with fail
        refine (steep_ok ac Z s.ln s.ld s.mn s.md _ hac1 hz1 e5 e6 e8).mono ?_
        rw [HS2.out]
        rintro e wS ⟨rfl, hBS⟩
        replace b := b.gr hBS
        replace o := o.gr hBS
        replace z := z.gr hBS
        replace t := t.gr hBS
        replace hBB := hBB.trans (Below.mono hBS (Below.size hBB))
        go_wp2
        exact ⟨⟨q + 1, kb', by omega, by go_num, rfl, HFT, b, o, z, t, hBB⟩, by simp [intOf]; omega⟩
    · obtain rfl : q = l.length := by omega
      rw [List.take_length] at HKB
      have HKB2 := Lib.hid (HKB.out.trans (metAny_map (n := n) (m := m) hPk).symm)
      have hgood := good_all hof hs0 hPk
      have hmet := hP
      clear HKB HMet HALL HST
      rcases HCP.out with ⟨k', hk', rfl, rfl, hg⟩ | ⟨rfl, hg⟩
      case inr =>
        obtain ⟨r, hr⟩ := hg k hk
        rw [← hPl] at hr
        have := gap_none hgood hr (n := n) (m := m) ⟨p1, p2, p3, p4, p5⟩
        obtain rfl : kb = true := HKB2.out.trans this
        go_wp2
        go_ret
        exact ⟨rfl, hBB⟩
      case inl =>
        by_cases hkk : k' = k
        case neg =>
          have q1 : ((k' : Int) != (k : Int)) = true := by simp; omega
          have HW2 : Hid (wi (k' : Int) 0 (j.fs.length - 1) = true) := Lib.hid (by simp [wi]; omega)
          go_wp2_with (go_at_call 43; refine (hasFace_any j k' A c _ (by omega)).mono ?_; rw [HW2.out]; rintro e w1 ⟨rfl, hB1⟩; obtain ⟨hc1, hf1⟩ := bcell hB1; have hz1 := hB1.size; (try simp at hz1))
          go_ret
          exact ⟨rfl, hBB.trans (Below.mono hB1 (Below.size hBB))⟩
        case pos =>
          subst hkk
          rw [← hPl] at hg
          obtain ⟨g1, g2, g3⟩ := gap_some hgood hg
          have E1 := Lib.hid g1.err
          have E2 := Lib.hid g2.err
          obtain ⟨x1, x2, x3, x4, _⟩ := g1
          obtain ⟨y1, y2, y3, y4, _⟩ := g2
          have G3 := Lib.hid (g3 n m ⟨p1, p2, p3, p4, p5⟩)
          have q1 : ((k' : Int) != (k' : Int)) = false := by simp
          clear g3 hg
          go_wp2_with fail
          refine (rPointErr_any ga gb ⟨by omega, by omega⟩ ⟨by omega, by omega⟩ _).mono ?_
          rw [E1.out]
          rintro e wc9 ⟨rfl, hBc9⟩
          replace b := b.gr hBc9
          replace o := o.gr hBc9
          replace z := z.gr hBc9
          replace t := t.gr hBc9
          replace hBB := hBB.trans (Below.mono hBc9 (Below.size hBB))
          clear hBc9
          clear l_b t0 t1 t2 t3 t4 l_o u0 u1 l_z v0 v1 v2 v3 l_t s0 s1
          have l_b := b.lt
          have l_o := o.lt
          have l_z := z.lt
          have l_t := t.lt
          obtain ⟨t0, t1, t2, t3, t4⟩ := pl_cells b
          obtain ⟨u0, u1, _⟩ := blk2 o
          obtain ⟨v0, v1, v2, v3⟩ := blk4c z
          obtain ⟨s0, s1, _⟩ := blk2 t
          go_wp2_with fail
          refine (rPointErr_any gc gd ⟨by omega, by omega⟩ ⟨by omega, by omega⟩ _).mono ?_
          rw [E2.out]
          rintro e wc10 ⟨rfl, hBc10⟩
          replace b := b.gr hBc10
          replace o := o.gr hBc10
          replace z := z.gr hBc10
          replace t := t.gr hBc10
          replace hBB := hBB.trans (Below.mono hBc10 (Below.size hBB))
          clear hBc10
          clear l_b t0 t1 t2 t3 t4 l_o u0 u1 l_z v0 v1 v2 v3 l_t s0 s1
          have l_b := b.lt
          have l_o := o.lt
          have l_z := z.lt
          have l_t := t.lt
          obtain ⟨t0, t1, t2, t3, t4⟩ := pl_cells b
          obtain ⟨u0, u1, _⟩ := blk2 o
          obtain ⟨v0, v1, v2, v3⟩ := blk4c z
          obtain ⟨s0, s1, _⟩ := blk2 t
          cases kb
          · go_wp2
            go_ret
            exact ⟨rfl, hBB⟩
          · by_cases q2 : n * gb ≤ ga * m
            · skip
              go_wp2_with fail
              refine (before_any n m ga gb ⟨by omega, by omega⟩ ⟨by omega, by omega⟩ ⟨by omega, by omega⟩ ⟨by omega, by omega⟩ _).mono ?_
              rintro e wc11 ⟨rfl, hBc11⟩
              replace b := b.gr hBc11
              replace o := o.gr hBc11
              replace z := z.gr hBc11
              replace t := t.gr hBc11
              replace hBB := hBB.trans (Below.mono hBc11 (Below.size hBB))
              clear hBc11
              clear l_b t0 t1 t2 t3 t4 l_o u0 u1 l_z v0 v1 v2 v3 l_t s0 s1
              have l_b := b.lt
              have l_o := o.lt
              have l_z := z.lt
              have l_t := t.lt
              obtain ⟨t0, t1, t2, t3, t4⟩ := pl_cells b
              obtain ⟨u0, u1, _⟩ := blk2 o
              obtain ⟨v0, v1, v2, v3⟩ := blk4c z
              obtain ⟨s0, s1, _⟩ := blk2 t
              have q3 := (cmpI_lei (n * gb) (ga * m)).2 q2
              generalize cmpI (n * gb) (ga * m) = v at *
              go_wp2
              go_ret
              exact ⟨rfl, hBB⟩
            · have q4 : gc * m ≤ n * gd := by
                rcases Int.lt_or_le (n * gd) (gc * m) with h | h
                · have := HKB2.out.trans (G3.out (by omega) h)
                  simp at this
                · exact h
              go_wp2_with fail
              refine (before_any n m ga gb ⟨by omega, by omega⟩ ⟨by omega, by omega⟩ ⟨by omega, by omega⟩ ⟨by omega, by omega⟩ _).mono ?_
              rintro e wc12 ⟨rfl, hBc12⟩
              replace b := b.gr hBc12
              replace o := o.gr hBc12
              replace z := z.gr hBc12
              replace t := t.gr hBc12
              replace hBB := hBB.trans (Below.mono hBc12 (Below.size hBB))
              clear hBc12
              clear l_b t0 t1 t2 t3 t4 l_o u0 u1 l_z v0 v1 v2 v3 l_t s0 s1
              have l_b := b.lt
              have l_o := o.lt
              have l_z := z.lt
              have l_t := t.lt
              obtain ⟨t0, t1, t2, t3, t4⟩ := pl_cells b
              obtain ⟨u0, u1, _⟩ := blk2 o
              obtain ⟨v0, v1, v2, v3⟩ := blk4c z
              obtain ⟨s0, s1, _⟩ := blk2 t
              have q3 : ¬ cmpI (n * gb) (ga * m) ≤ 0 := fun h => by have := (cmpI_lei _ _).1 h; omega
              generalize cmpI (n * gb) (ga * m) = v at *
              go_wp2_with fail
              refine (before_any gc gd n m ⟨by omega, by omega⟩ ⟨by omega, by omega⟩ ⟨by omega, by omega⟩ ⟨by omega, by omega⟩ _).mono ?_
              rintro e wc13 ⟨rfl, hBc13⟩
              replace b := b.gr hBc13
              replace o := o.gr hBc13
              replace z := z.gr hBc13
              replace t := t.gr hBc13
              replace hBB := hBB.trans (Below.mono hBc13 (Below.size hBB))
              clear hBc13
              clear l_b t0 t1 t2 t3 t4 l_o u0 u1 l_z v0 v1 v2 v3 l_t s0 s1
              have l_b := b.lt
              have l_o := o.lt
              have l_z := z.lt
              have l_t := t.lt
              obtain ⟨t0, t1, t2, t3, t4⟩ := pl_cells b
              obtain ⟨u0, u1, _⟩ := blk2 o
              obtain ⟨v0, v1, v2, v3⟩ := blk4c z
              obtain ⟨s0, s1, _⟩ := blk2 t
              have q5 := (cmpI_lei (gc * m) (n * gd)).2 q4
              generalize cmpI (gc * m) (n * gd) = v' at *
              go_wp2
              go_ret
              exact ⟨by simp [q5], hBB⟩
end Go.Proofs.YtfbnpfhnffahdaaGreatDoor
