/- Region 9 of trace.Frames: a frame is appended; the place moves on. -/
import Derived.Test.YtfgeipapmdhneaaDoorTsI
import Derived.Test.YtfgeipapmdhneaaDoorRgO
import Derived.Test.YtfgeipapmdhneaaDoorZsRgW
namespace Go.Proofs.YtfgeipapmdhneaaDoor
open Go.RowKit Go.Lib Go.Shelf

theorem wp_append_at {P : Program} (w : World) {o : Oper} {a : Act} {K : Act → World → Prop} {Q : Exit → Act → World → Prop} (s x : Operand) (t : TypeId)
    (ho : o.op = .call { callee := .builtin .append, args := #[s, x], argTypes := #[t, t] })
    (base : Nat) (e : TypeId) (i : TypeInfo) (z : Value) (size bytes : Nat) (ht : P.underlying t = some (.slice e)) (hi : P.info? e = some i) (hz : i.zero = some z)
    (hsize : i.size = size) (hby : i.bytes = bytes) (hzs : z.cells.size = size) (hsz : 0 < size)
    (v : Value) (n : Nat) (xs : List Value) (hs : a.eval s = v) (hown : w.ownsRow base e size v n xs)
    (ad : Addr) (m c : Nat) (news : List Value) (hx : a.eval x = .slice (some ad) m c) (hl : news.length = m * size) (hnews : ∀ j u, news[j]? = some u → w.cell? (ad.add j) = some u) (h1 : ∀ u ∈ news, u.oneCell' = true)
    (h63 : n + m ≤ maxLen) (hbytes : (n + m) * bytes ≤ 140737488355328) (hbase : base ≤ w.heap.size)
    (h : ∀ v' w', w'.ownsRow base e size v' (n + m) (xs ++ news) → w.grownBy w' v.ownBlock → (v'.ownBlock = v.ownBlock ∨ v'.ownBlock = some w.heap.size) → K (a.put o.dst v') w') : o.wp P a w K Q := by
  obtain ⟨v', w', hr, h2, h3, _, h5⟩ := run_append_own_at (P := P) w base t o.type e i z size bytes ht hi hz hsize hby hzs hsz v n xs hown ad m c news hl hnews h1 h63 hbytes hbase
  unfold Oper.wp execOp
  simp only [ho, resolve, invoke, builtin, Sem.run_bind, Sem.run_pure, Result.andThen_ok, List.map_toArray, List.map_cons, List.map_nil, hs, hx, hr]
  exact h v' w' h2 h3 h5

theorem cell3new (w : World) (x y z : Value) (t : TypeId) : ∀ j v, [x, y, z][j]? = some v → (w.alloc (.cells #[x, y, z] t)).cell? ((⟨w.heap.size, 0, none⟩ : Addr).add j) = some v := by
  intro j v h
  rw [Addr.add_lit, Nat.zero_add]
  exact (Blk.cell (Blk.new w t #[x, y, z]) j).trans (by simpa using h)
theorem infoTF : (Tryd.prog.info? 35).map (fun i => (i.zero, i.size, i.bytes)) = some (some (.agg #[.int .i64 0, .int .i64 0, .slice none 0 0]), 3, 40) := by kernel_rfl
set_option maxRecDepth 100000 in
set_option maxHeartbeats 2000000 in
theorem frReg9 {W : World} {f base k c : Nat} {p : Int} {A : Option Addr} {v5 : Value} {xs : List Value} (z : Blk W f 35 #[.int .i64 p, .int .i64 1, .slice A 64 c]) (own : W.ownsRow base 35 3 v5 k xs) (hfb : v5.ownBlock ≠ some f) (hbs : base ≤ W.heap.size) (hk : k ≤ 10) {t0 t1 t2 t3 t4 t7 t9 t10 t11 t12 t13 t14 t15 t16 t17 t18 t19 t20 t21 t22 t23 t24 t25 t26 t27 t28 t29 t30 t31 t32 t33 t34 t35 t36 t37 t38 t39 t40 t41 t42 t43 t44 t45 : Value} {ds : List Deferred} (Q : Exit → Act → World → Prop)
    (h : ∀ (t34 t35 t36 t37 t38 t39 t40 t41 t42 t43 v : Value) (w' : World), w'.ownsRow base 35 3 v (k + 1) (xs ++ [.int .i64 p, .int .i64 1, .slice A 64 c]) → Below base W w' → Q .normal ⟨#[t0, t1, t2, t3, t4, v, .int .i64 (138 * (k : Int) + 138), t7, .pointer (some ⟨f, 0, none⟩), t9, t10, t11, t12, t13, t14, t15, t16, t17, t18, t19, t20, t21, t22, t23, t24, t25, t26, t27, t28, t29, t30, t31, t32, t33, t34, t35, t36, t37, t38, t39, t40, t41, t42, t43, t44, t45], ds⟩ w') :
    (regOf Tryd.f8 9).wp Tryd.prog Q ⟨#[t0, t1, t2, t3, t4, v5, .int .i64 (138 * (k : Int)), t7, .pointer (some ⟨f, 0, none⟩), t9, t10, t11, t12, t13, t14, t15, t16, t17, t18, t19, t20, t21, t22, t23, t24, t25, t26, t27, t28, t29, t30, t31, t32, t33, t34, t35, t36, t37, t38, t39, t40, t41, t42, t43, t44, t45], ds⟩ W := by
  have H := Lib.hid h; clear h
  obtain ⟨i0, hi, iz0, iz1, iz2⟩ := info_parts infoTF
  have hkI : (k : Int) ≤ 10 := by omega
  conv in (regOf _ _) => whnf
  refine wp_region_w (fun w' => Blk w' f 35 #[.int .i64 p, .int .i64 1, .slice A 64 c]) (by kernel_rfl) (z.drew) ?_
  refine wpW_det (t' := ?ct0R1) 0 (by rfl) (by kernel_rfl) (NQ_free _) (by kernel_rfl) ?cw0R1 ?ch0R1 ?ca0R1 (Eq.refl _) ?cH0R1
  case cw0R1 => (go_simp; done)
  case ch0R1 =>
    intro ds w' hS K hK
    obtain ⟨z0, z1, z2, zf⟩ := blk3_ hS
    have lz := Blk.lt hS
    go_simp
    try go_bits
    exact hK _ hS (Gr.refl _)
  case ca0R1 => (first | (simp [Act.put]; done) | (simp [Act.put, *]; done))
  try dsimp only
  refine wpW_det (t' := ?ct1R1) 1 (by rfl) (by kernel_rfl) (NQ_free _) (by kernel_rfl) ?cw1R1 ?ch1R1 ?ca1R1 (Eq.refl _) ?cH1R1
  case cw1R1 => (go_simp; done)
  case ch1R1 =>
    intro ds w' hS K hK
    obtain ⟨z0, z1, z2, zf⟩ := blk3_ hS
    have lz := Blk.lt hS
    go_simp
    try go_bits
    exact hK _ hS (Gr.refl _)
  case ca1R1 => (first | (simp [Act.put]; done) | (simp [Act.put, *]; done))
  try dsimp only
  refine wpW_det (t' := ?ct4R1) 4 (by rfl) (by kernel_rfl) (NQ_free _) (by kernel_rfl) ?cw4R1 ?ch4R1 ?ca4R1 (Eq.refl _) ?cH4R1
  case cw4R1 => (go_simp; done)
  case ch4R1 =>
    intro ds w' hS K hK
    obtain ⟨z0, z1, z2, zf⟩ := blk3_ hS
    have lz := Blk.lt hS
    go_simp
    try go_bits
    exact hK _ hS (Gr.refl _)
  case ca4R1 => (first | (simp [Act.put]; done) | (simp [Act.put, *]; done))
  try dsimp only
  refine wpW_det (t' := ?ct5R1) 5 (by rfl) (by kernel_rfl) (NQ_free _) (by kernel_rfl) ?cw5R1 ?ch5R1 ?ca5R1 (Eq.refl _) ?cH5R1
  case cw5R1 => (go_simp; done)
  case ch5R1 =>
    intro ds w' hS K hK
    obtain ⟨z0, z1, z2, zf⟩ := blk3_ hS
    have lz := Blk.lt hS
    go_simp
    try go_bits
    exact hK _ hS (Gr.refl _)
  case ca5R1 => (first | (simp [Act.put]; done) | (simp [Act.put, *]; done))
  try dsimp only
  refine wpW_det (t' := ?ct6R1) 6 (by rfl) (by kernel_rfl) (NQ_free _) (by kernel_rfl) ?cw6R1 ?ch6R1 ?ca6R1 (Eq.refl _) ?cH6R1
  case cw6R1 => (go_simp; done)
  case ch6R1 =>
    intro ds w' hS K hK
    obtain ⟨z0, z1, z2, zf⟩ := blk3_ hS
    have lz := Blk.lt hS
    go_simp
    try go_bits
    exact hK _ hS (Gr.refl _)
  case ca6R1 => (first | (simp [Act.put]; done) | (simp [Act.put, *]; done))
  try dsimp only
  refine wpW_det (t' := ?ct7R1) 7 (by rfl) (by kernel_rfl) (NQ_free _) (by kernel_rfl) ?cw7R1 ?ch7R1 ?ca7R1 (Eq.refl _) ?cH7R1
  case cw7R1 => (go_simp; done)
  case ch7R1 =>
    intro ds w' hS K hK
    obtain ⟨z0, z1, z2, zf⟩ := blk3_ hS
    have lz := Blk.lt hS
    go_simp
    try go_bits
    exact hK _ hS (Gr.refl _)
  case ca7R1 => (first | (simp [Act.put]; done) | (simp [Act.put, *]; done))
  try dsimp only
  replace own : W.drew.ownsRow base 35 3 v5 k xs := own
  replace z := z.drew
  have hBW : Below base W W.drew := ⟨rfl, rfl, rfl, Nat.le_refl _, fun _ _ => rfl⟩
  replace hbs : base ≤ W.drew.heap.size := hbs
  refine wpW_branch [2] (by kernel_rfl) (by simp) ?_
  intro w1 hg1 hS1
  replace z := Blk.gr z hg1
  replace hBW := Below.trans hBW (Below.mono hg1 hbs)
  replace hbs := Nat.le_trans hbs (Below.size hg1)
  replace own := own_below own hg1
  refine each_cons ?_ (each_nil)
  refine wpOp_go (by rfl) (Eq.refl _) (by go_simp; done) ?_
  intro K hK
  go_simp
  try simp only [Act.put]
  have bn := Blk.new w1 35 #[.int .i64 p, .int .i64 1, .slice A 64 c]
  have hal : Gr w1 (w1.alloc (.cells #[.int .i64 p, .int .i64 1, .slice A 64 c] 35)) := (Below.refl _ _).alloc (Nat.le_refl _) _
  replace z := Blk.gr z hal
  replace hBW := Below.trans hBW (Below.mono hal hbs)
  replace hbs := Nat.le_trans hbs (Below.size hal)
  replace own := own_below own hal
  clear hal
  generalize w1.heap.size = gn at *
  refine hK _ _ z ?_
  clear hK K
  refine wpW_branch [3] (by kernel_rfl) (by simp) ?_
  intro w2 hg2 hS2
  replace z := Blk.gr z hg2
  replace hBW := Below.trans hBW (Below.mono hg2 hbs)
  replace hbs := Nat.le_trans hbs (Below.size hg2)
  replace own := own_below own hg2
  replace bn := Blk.gr bn hg2
  refine each_cons ?_ (each_nil)
  refine wpOp_go (by rfl) (Eq.refl _) (by go_simp; done) ?_
  intro K hK
  refine wp_append_at _ (.tmp 34) (.tmp 36) 36 rfl base 35 i0 _ 3 40 Tryd.underlying36 hi iz0 iz1 iz2 rfl (by decide) _ k xs rfl own ⟨gn, 0, none⟩ 1 1 [.int .i64 p, .int .i64 1, .slice A 64 c] rfl rfl ?hc (by simp [Value.oneCell']) (by unfold maxLen; omega) (by omega) hbs ?_
  case hc =>
    intro j u hj
    rw [Addr.add_lit, Nat.zero_add]
    exact (bn.cell j).trans (by simpa using hj)
  intro u12 wa hown' hgrow hat
  replace z := z.grown hgrow (fun e => hfb e.symm)
  have hBW3 : Below base W wa := Below.grown hBW hgrow hbs (fun r e => (own.lt r e).1)
  have hbs3 : base ≤ wa.heap.size := Nat.le_trans hbs hgrow.size
  obtain ⟨g', cap', rfl⟩ := ownsRow_succ hown'
  clear hgrow hat bn own hBW hbs
  try simp only [Act.put]
  try simp only [List.setIfInBounds_toArray]
  refine hK _ _ z ?_
  clear hK K
  refine wpW_branch [8] (by kernel_rfl) (by simp) ?_
  intro w3 hg3 hS3
  replace z := Blk.gr z hg3
  replace hBW3 := Below.trans hBW3 (Below.mono hg3 hbs3)
  replace hbs3 := Nat.le_trans hbs3 (Below.size hg3)
  replace hown' := own_below hown' hg3
  refine each_cons ?_ (each_nil)
  refine wpOp_go (by rfl) (Eq.refl _) (by go_simp; done) ?_
  intro K hK
  go_simp
  try simp only [Act.put]
  go_at_call 22
  refine (frameSize_any _).mono ?_
  rintro e wq ⟨rfl, hq⟩
  obtain rfl := hq
  try simp only []
  try simp only [List.setIfInBounds_toArray]
  refine hK _ _ z ?_
  clear hK K
  refine wpW_det (t' := ?ct9R2) 9 (by rfl) (by kernel_rfl) (NQ_free _) (by kernel_rfl) ?cw9R2 ?ch9R2 ?ca9R2 (Eq.refl _) ?cH9R2
  case cw9R2 => (go_simp; done)
  case ch9R2 =>
    intro ds w' hS K hK
    obtain ⟨z0, z1, z2, zf⟩ := blk3_ hS
    go_simp
    try go_bits
    exact hK _ hS (Gr.refl _)
  case ca9R2 => (first | (simp [Act.put]; done) | (simp [Act.put, *]; done))
  try dsimp only
  refine wpW_det (t' := ?ct10R2) 10 (by rfl) (by kernel_rfl) (NQ_free _) (by kernel_rfl) ?cw10R2 ?ch10R2 ?ca10R2 (Eq.refl _) ?cH10R2
  case cw10R2 => (go_simp; done)
  case ch10R2 =>
    intro ds w' hS K hK
    obtain ⟨z0, z1, z2, zf⟩ := blk3_ hS
    go_simp
    try go_bits
    exact hK _ hS (Gr.refl _)
  case ca10R2 => (first | (simp [Act.put]; done) | (simp [Act.put, *]; done))
  try dsimp only
  refine wpW_det (t' := ?ct11R2) 11 (by rfl) (by kernel_rfl) (NQ_free _) (by kernel_rfl) ?cw11R2 ?ch11R2 ?ca11R2 (Eq.refl _) ?cH11R2
  case cw11R2 => (go_simp; done)
  case ch11R2 =>
    intro ds w' hS K hK
    obtain ⟨z0, z1, z2, zf⟩ := blk3_ hS
    go_simp
    try go_bits
    exact hK _ hS (Gr.refl _)
  case ca11R2 => (first | (simp [Act.put]; done) | (simp [Act.put, *]; done))
  try dsimp only
  refine wpW_end (by kernel_rfl) ?_
  intro we hg hS
  unfold NQ
  dsimp only
  exact H.out _ _ _ _ _ _ _ _ _ _ _ we (own_below hown' hg) (Below.trans hBW3 (Below.mono hg hbs3))
end Go.Proofs.YtfgeipapmdhneaaDoor
