/- Contracts: math/bits.Mul, slices.Repeat of ints. Contract: two lists of marks, opened. -/
import Derived.Shelf.Bits.Mul64
import Derived.Shelf.Spec.SlicesInsert
import Derived.Test.YtidgeagpgllkeaaGreatZdFnX
import Derived.Test.YtidgeagpgllkeaaGreatZdFeF
namespace Go.Proofs.YtidgeagpgllkeaaGreat
open Go.RowKit

set_option maxHeartbeats 1000000 in
theorem bitsMul64_any (x y : Nat) (hx : x < 18446744073709551616) (hy : y < 18446744073709551616) (w : World) :
    Calls Tryz.prog 205 #[.int .u64 x, .int .u64 y] w fun e w' => e = .returned (.tuple #[.int .u64 ((x * y / 18446744073709551616 : Nat) : Int), .int .u64 ((x * y % 18446744073709551616 : Nat) : Int)]) ∧ w' = w := by
  obtain ⟨bd, bt, bw, hhi⟩ := Lib.mul64_hi x y hx hy
  have ba := Lib.half_mul_le (a := x / 4294967296) (b := y / 4294967296) (by omega) (by omega)
  have bb := Lib.half_mul_le (a := x / 4294967296) (b := y % 4294967296) (by omega) (by omega)
  have bc := Lib.half_mul_le (a := x % 4294967296) (b := y / 4294967296) (by omega) (by omega)
  have ba' : x / 4294967296 * (y / 4294967296) < 18446744073709551616 := by omega
  have bb' : x / 4294967296 * (y % 4294967296) < 18446744073709551616 := by omega
  have bc' : x % 4294967296 * (y / 4294967296) < 18446744073709551616 := by omega
  have bh1 : x / 4294967296 * (y / 4294967296) + (x / 4294967296 * (y % 4294967296) + x % 4294967296 * (y % 4294967296) / 4294967296) / 4294967296 < 18446744073709551616 := by omega
  have bh : x / 4294967296 * (y / 4294967296) + (x / 4294967296 * (y % 4294967296) + x % 4294967296 * (y % 4294967296) / 4294967296) / 4294967296 + ((x / 4294967296 * (y % 4294967296) + x % 4294967296 * (y % 4294967296) / 4294967296) % 4294967296 + x % 4294967296 * (y / 4294967296)) / 4294967296 < 18446744073709551616 := by omega
  go_enter Tryz.func205, Tryz.ntmps205
  go_wp2
  simp only [Mul64.maskN x hx, Mul64.maskN y hy, Mul64.divN, Mul64.mulN, Mul64.addN, Mul64.wrapN _ bd, Mul64.wrapN _ bb', Mul64.wrapN _ bt, Mul64.maskN _ bt, Mul64.wrapN _ bc', Mul64.wrapN _ bw, Mul64.wrapN _ ba', Mul64.wrapN _ bh1, Mul64.wrapN _ bh, Mul64.wrapM (x * y)]
  rw [hhi]
  go_ret2
  exact ⟨rfl, rfl⟩
set_option maxHeartbeats 1000000 in
theorem bitsMul_any (x y : Nat) (hx : x < 18446744073709551616) (hy : y < 18446744073709551616) (w : World) :
    Calls Tryz.prog 186 #[.int .u64 x, .int .u64 y] w fun e w' => e = .returned (.tuple #[.int .u64 ((x * y / 18446744073709551616 : Nat) : Int), .int .u64 ((x * y % 18446744073709551616 : Nat) : Int)]) ∧ w' = w := by
  go_enter Tryz.func186, Tryz.ntmps186
  go_wp2_with (go_at_call 205; refine (bitsMul64_any x y hx hy _).mono ?_; rintro e w' ⟨rfl, hw⟩; rw [hw])
  go_ret2
  exact ⟨rfl, rfl⟩
/-- Numbers written one behind the other. -/
def putsL : List Int → Nat → List Int → List Int
  | F, _, [] => F
  | F, o, x :: r => putsL (F.set o x) (o + 1) r
theorem puts_rep (a b : Int) : ∀ (c k m : Nat), c ≤ m → putsL (List.replicate k a ++ List.replicate m b) k (List.replicate c a) = List.replicate (k + c) a ++ List.replicate (m - c) b
  | 0, k, m, _ => rfl
  | c + 1, k, 0, h => by omega
  | c + 1, k, m + 1, h => by
    have e : (List.replicate k a ++ List.replicate (m + 1) b).set k a = List.replicate (k + 1) a ++ List.replicate m b := by
      rw [List.set_append_right _ _ (by simp), List.length_replicate, Nat.sub_self, List.replicate_succ (n := m), List.set_cons_zero, List.replicate_succ' (n := k), List.append_assoc, List.singleton_append]
    rw [List.replicate_succ]
    show putsL ((List.replicate k a ++ List.replicate (m + 1) b).set k a) (k + 1) (List.replicate c a) = _
    rw [e, puts_rep a b c (k + 1) m (by omega), show k + 1 + c = k + (c + 1) by omega, show m + 1 - (c + 1) = m - c by omega]
theorem LbM.puts {V : World} {p N : Nat} : ∀ (xs : List Int) (o : Nat) {F : List Int} {W : World}, LbM V p N F W → LbM V p N (putsL F o xs) (W.setCells p o (intsC xs))
  | [], _, _, _, h => h
  | x :: r, o, _F, _W, h => LbM.puts r (o + 1) (h.put o x)
theorem below_puts {B p : Nat} {V : World} (hp : B ≤ p) : ∀ (xs : List Value) (o : Nat) {W : World}, Below B V W → Below B V (W.setCells p o xs)
  | [], _, _, h => h
  | x :: r, o, _W, h => below_puts hp r (o + 1) (h.setCell hp x)
theorem intsC_get {l : List Int} {j : Nat} {v : Value} (h : (intsC l)[j]? = some v) : ∃ x, l[j]? = some x ∧ v = .int .i64 x := by
  simp [intsC] at h
  obtain ⟨x, h1, h2⟩ := h
  exact ⟨x, h1, h2.symm⟩
theorem intsC_len (l : List Int) : (intsC l).length = l.length := by simp [intsC]
theorem intsC_one {l : List Int} : ∀ v ∈ intsC l, v.oneCell' = true := by
  intro v hv
  simp [intsC] at hv
  obtain ⟨x, _, rfl⟩ := hv
  rfl
theorem infoIntSize : (Tryz.prog.info? 3).map (·.size) = some 1 := by kernel_rfl

set_option maxRecDepth 100000 in
set_option maxHeartbeats 4000000 in
theorem repReg9 {V W : World} {p n k : Nat} (hn : n ≤ 1000) (hk : k < n) (hk1 : 1 ≤ k) (M : LbM V p n (List.replicate k (-1) ++ List.replicate (n - k) 0) W) {t0 t1 t2 t3 t4 t5 t6 t9 t10 t11 t12 t13 t14 t15 t16 t17 t18 t19 t20 t21 t22 t23 t24 t25 t26 t27 t28 t29 t30 t31 t32 t33 t34 t35 t36 t37 t38 t39 t40 t41 t42 t43 t44 t45 t46 t47 : Value} {ds : List Deferred} (Q : Exit → Act → World → Prop)
    (h : ∀ (t38 t39 t40 t41 t42 t43 t44 t45 t46 : Value) (w' : World), LbM V p n (List.replicate (k + Nat.min k (n - k)) (-1) ++ List.replicate (n - k - Nat.min k (n - k)) 0) w' → Q .normal ⟨#[t0, t1, t2, t3, t4, t5, t6, .slice (some ⟨p, 0, none⟩) n n, .int .i64 ((k + Nat.min k (n - k) : Nat) : Int), t9, t10, t11, t12, t13, t14, t15, t16, t17, t18, t19, t20, t21, t22, t23, t24, t25, t26, t27, t28, t29, t30, t31, t32, t33, t34, t35, t36, t37, t38, t39, t40, t41, t42, t43, t44, t45, t46, t47], ds⟩ w') :
    (regOf Tryz.f158 9).wp Tryz.prog Q ⟨#[t0, t1, t2, t3, t4, t5, t6, .slice (some ⟨p, 0, none⟩) n n, .int .i64 k, t9, t10, t11, t12, t13, t14, t15, t16, t17, t18, t19, t20, t21, t22, t23, t24, t25, t26, t27, t28, t29, t30, t31, t32, t33, t34, t35, t36, t37, t38, t39, t40, t41, t42, t43, t44, t45, t46, t47], ds⟩ W := by
  have H := Lib.hid h; clear h
  have M := M.drew
  have hnk : ¬ (n = k) := by omega
  have k0 : (0 : Int) ≤ (k : Int) := by omega
  have k1 : (k : Int) ≤ (n : Int) := by omega
  have k2 : ((k : Int)).toNat = k := by omega
  have hc : Nat.min k (n - k) ≤ n - k := Nat.min_le_right _ _
  have hc0 : Nat.min k (n - k) ≤ k := Nat.min_le_left _ _
  obtain ⟨c, hce⟩ : ∃ c, Nat.min k (n - k) = c := ⟨_, rfl⟩
  have HCE := Lib.hid hce
  rw [hce] at H hc hc0
  clear hce
  conv in (regOf _ _) => whnf
  refine wp_region_w (fun w' => Below V.heap.size _ w') (by kernel_rfl) (Below.refl _ _).drew ?_
  refine wpW_det (t' := ?ct0R234) 0 (by rfl) (by kernel_rfl) (NQ_free _) (by kernel_rfl) ?cw0R234 ?ch0R234 ?ca0R234 (Eq.refl _) ?cH0R234
  case cw0R234 => (go_simp; done)
  case ch0R234 =>
    intro ds w' hS K hK
    have hc := (bcellB hS).1
    have hf := (bcellB hS).2
    have hz := hS.size
    try simp at hz
    go_simp
    try go_bits
    first
      | exact hK _ hS (Gr.refl _)
      | exact hK _ (by repeat (first | (with_reducible exact Below.refl _ _) | (with_reducible assumption) | ((with_reducible refine Below.setCell ?_ ?_ _); rotate_left; · (first | exact Nat.le_refl _ | (simp; done) | (simp; omega) | omega)) | ((with_reducible refine Below.alloc ?_ ?_ _); rotate_left; · (first | exact Nat.le_refl _ | (simp; done) | (simp; omega) | omega)) | (with_reducible apply Below.drew) | (with_reducible apply below_drewN') | (refine Below.trans ?_ (Below.mono (by assumption) (by first | exact Nat.le_refl _ | (simp; done) | (simp; omega) | omega))) | exact Below.refl _ _ | assumption)) (by repeat (first | (with_reducible exact Below.refl _ _) | (with_reducible assumption) | ((with_reducible refine Below.setCell ?_ ?_ _); rotate_left; · (first | exact Nat.le_refl _ | (simp; done) | (simp; omega) | omega)) | ((with_reducible refine Below.alloc ?_ ?_ _); rotate_left; · (first | exact Nat.le_refl _ | (simp; done) | (simp; omega) | omega)) | (with_reducible apply Below.drew) | (with_reducible apply below_drewN') | (refine Below.trans ?_ (Below.mono (by assumption) (by first | exact Nat.le_refl _ | (simp; done) | (simp; omega) | omega))) | exact Below.refl _ _ | assumption))
  case ca0R234 => (first | (simp [Act.put]; done) | (simp [Act.put, *]; done))
  try dsimp only
  refine wpW_det (t' := ?ct1R234) 1 (by rfl) (by kernel_rfl) (NQ_free _) (by kernel_rfl) ?cw1R234 ?ch1R234 ?ca1R234 (Eq.refl _) ?cH1R234
  case cw1R234 => (go_simp; done)
  case ch1R234 =>
    intro ds w' hS K hK
    have hc := (bcellB hS).1
    have hf := (bcellB hS).2
    have hz := hS.size
    try simp at hz
    go_simp
    try go_bits
    first
      | exact hK _ hS (Gr.refl _)
      | exact hK _ (by repeat (first | (with_reducible exact Below.refl _ _) | (with_reducible assumption) | ((with_reducible refine Below.setCell ?_ ?_ _); rotate_left; · (first | exact Nat.le_refl _ | (simp; done) | (simp; omega) | omega)) | ((with_reducible refine Below.alloc ?_ ?_ _); rotate_left; · (first | exact Nat.le_refl _ | (simp; done) | (simp; omega) | omega)) | (with_reducible apply Below.drew) | (with_reducible apply below_drewN') | (refine Below.trans ?_ (Below.mono (by assumption) (by first | exact Nat.le_refl _ | (simp; done) | (simp; omega) | omega))) | exact Below.refl _ _ | assumption)) (by repeat (first | (with_reducible exact Below.refl _ _) | (with_reducible assumption) | ((with_reducible refine Below.setCell ?_ ?_ _); rotate_left; · (first | exact Nat.le_refl _ | (simp; done) | (simp; omega) | omega)) | ((with_reducible refine Below.alloc ?_ ?_ _); rotate_left; · (first | exact Nat.le_refl _ | (simp; done) | (simp; omega) | omega)) | (with_reducible apply Below.drew) | (with_reducible apply below_drewN') | (refine Below.trans ?_ (Below.mono (by assumption) (by first | exact Nat.le_refl _ | (simp; done) | (simp; omega) | omega))) | exact Below.refl _ _ | assumption))
  case ca1R234 => (first | (simp [Act.put]; done) | (simp [Act.put, *]; done))
  try dsimp only
  refine wpW_det (t' := ?ct2R234) 2 (by rfl) (by kernel_rfl) (NQ_free _) (by kernel_rfl) ?cw2R234 ?ch2R234 ?ca2R234 (Eq.refl _) ?cH2R234
  case cw2R234 => (go_simp; done)
  case ch2R234 =>
    intro ds w' hS K hK
    have hc := (bcellB hS).1
    have hf := (bcellB hS).2
    have hz := hS.size
    try simp at hz
    go_simp
    try go_bits
    first
      | exact hK _ hS (Gr.refl _)
      | exact hK _ (by repeat (first | (with_reducible exact Below.refl _ _) | (with_reducible assumption) | ((with_reducible refine Below.setCell ?_ ?_ _); rotate_left; · (first | exact Nat.le_refl _ | (simp; done) | (simp; omega) | omega)) | ((with_reducible refine Below.alloc ?_ ?_ _); rotate_left; · (first | exact Nat.le_refl _ | (simp; done) | (simp; omega) | omega)) | (with_reducible apply Below.drew) | (with_reducible apply below_drewN') | (refine Below.trans ?_ (Below.mono (by assumption) (by first | exact Nat.le_refl _ | (simp; done) | (simp; omega) | omega))) | exact Below.refl _ _ | assumption)) (by repeat (first | (with_reducible exact Below.refl _ _) | (with_reducible assumption) | ((with_reducible refine Below.setCell ?_ ?_ _); rotate_left; · (first | exact Nat.le_refl _ | (simp; done) | (simp; omega) | omega)) | ((with_reducible refine Below.alloc ?_ ?_ _); rotate_left; · (first | exact Nat.le_refl _ | (simp; done) | (simp; omega) | omega)) | (with_reducible apply Below.drew) | (with_reducible apply below_drewN') | (refine Below.trans ?_ (Below.mono (by assumption) (by first | exact Nat.le_refl _ | (simp; done) | (simp; omega) | omega))) | exact Below.refl _ _ | assumption))
  case ca2R234 => (first | (simp [Act.put]; done) | (simp [Act.put, *]; done))
  try dsimp only
  refine wpW_det (t' := ?ct3R234) 3 (by rfl) (by kernel_rfl) (NQ_free _) (by kernel_rfl) ?cw3R234 ?ch3R234 ?ca3R234 (Eq.refl _) ?cH3R234
  case cw3R234 => (go_simp; done)
  case ch3R234 =>
    intro ds w' hS K hK
    have hc := (bcellB hS).1
    have hf := (bcellB hS).2
    have hz := hS.size
    try simp at hz
    go_simp
    try go_bits
    first
      | exact hK _ hS (Gr.refl _)
      | exact hK _ (by repeat (first | (with_reducible exact Below.refl _ _) | (with_reducible assumption) | ((with_reducible refine Below.setCell ?_ ?_ _); rotate_left; · (first | exact Nat.le_refl _ | (simp; done) | (simp; omega) | omega)) | ((with_reducible refine Below.alloc ?_ ?_ _); rotate_left; · (first | exact Nat.le_refl _ | (simp; done) | (simp; omega) | omega)) | (with_reducible apply Below.drew) | (with_reducible apply below_drewN') | (refine Below.trans ?_ (Below.mono (by assumption) (by first | exact Nat.le_refl _ | (simp; done) | (simp; omega) | omega))) | exact Below.refl _ _ | assumption)) (by repeat (first | (with_reducible exact Below.refl _ _) | (with_reducible assumption) | ((with_reducible refine Below.setCell ?_ ?_ _); rotate_left; · (first | exact Nat.le_refl _ | (simp; done) | (simp; omega) | omega)) | ((with_reducible refine Below.alloc ?_ ?_ _); rotate_left; · (first | exact Nat.le_refl _ | (simp; done) | (simp; omega) | omega)) | (with_reducible apply Below.drew) | (with_reducible apply below_drewN') | (refine Below.trans ?_ (Below.mono (by assumption) (by first | exact Nat.le_refl _ | (simp; done) | (simp; omega) | omega))) | exact Below.refl _ _ | assumption))
  case ca3R234 => (first | (simp [Act.put]; done) | (simp [Act.put, *]; done))
  try dsimp only
  refine wpW_det (t' := ?ct4R234) 4 (by rfl) (by kernel_rfl) (NQ_free _) (by kernel_rfl) ?cw4R234 ?ch4R234 ?ca4R234 (Eq.refl _) ?cH4R234
  case cw4R234 => (go_simp; done)
  case ch4R234 =>
    intro ds w' hS K hK
    have hc := (bcellB hS).1
    have hf := (bcellB hS).2
    have hz := hS.size
    try simp at hz
    go_simp
    try go_bits
    first
      | exact hK _ hS (Gr.refl _)
      | exact hK _ (by repeat (first | (with_reducible exact Below.refl _ _) | (with_reducible assumption) | ((with_reducible refine Below.setCell ?_ ?_ _); rotate_left; · (first | exact Nat.le_refl _ | (simp; done) | (simp; omega) | omega)) | ((with_reducible refine Below.alloc ?_ ?_ _); rotate_left; · (first | exact Nat.le_refl _ | (simp; done) | (simp; omega) | omega)) | (with_reducible apply Below.drew) | (with_reducible apply below_drewN') | (refine Below.trans ?_ (Below.mono (by assumption) (by first | exact Nat.le_refl _ | (simp; done) | (simp; omega) | omega))) | exact Below.refl _ _ | assumption)) (by repeat (first | (with_reducible exact Below.refl _ _) | (with_reducible assumption) | ((with_reducible refine Below.setCell ?_ ?_ _); rotate_left; · (first | exact Nat.le_refl _ | (simp; done) | (simp; omega) | omega)) | ((with_reducible refine Below.alloc ?_ ?_ _); rotate_left; · (first | exact Nat.le_refl _ | (simp; done) | (simp; omega) | omega)) | (with_reducible apply Below.drew) | (with_reducible apply below_drewN') | (refine Below.trans ?_ (Below.mono (by assumption) (by first | exact Nat.le_refl _ | (simp; done) | (simp; omega) | omega))) | exact Below.refl _ _ | assumption))
  case ca4R234 => (first | (simp [Act.put]; done) | (simp [Act.put, *]; done))
  try dsimp only
  refine wpW_det (t' := ?ct5R234) 5 (by rfl) (by kernel_rfl) (NQ_free _) (by kernel_rfl) ?cw5R234 ?ch5R234 ?ca5R234 (Eq.refl _) ?cH5R234
  case cw5R234 => (go_simp; done)
  case ch5R234 =>
    intro ds w' hS K hK
    have hc := (bcellB hS).1
    have hf := (bcellB hS).2
    have hz := hS.size
    try simp at hz
    go_simp
    try go_bits
    first
      | exact hK _ hS (Gr.refl _)
      | exact hK _ (by repeat (first | (with_reducible exact Below.refl _ _) | (with_reducible assumption) | ((with_reducible refine Below.setCell ?_ ?_ _); rotate_left; · (first | exact Nat.le_refl _ | (simp; done) | (simp; omega) | omega)) | ((with_reducible refine Below.alloc ?_ ?_ _); rotate_left; · (first | exact Nat.le_refl _ | (simp; done) | (simp; omega) | omega)) | (with_reducible apply Below.drew) | (with_reducible apply below_drewN') | (refine Below.trans ?_ (Below.mono (by assumption) (by first | exact Nat.le_refl _ | (simp; done) | (simp; omega) | omega))) | exact Below.refl _ _ | assumption)) (by repeat (first | (with_reducible exact Below.refl _ _) | (with_reducible assumption) | ((with_reducible refine Below.setCell ?_ ?_ _); rotate_left; · (first | exact Nat.le_refl _ | (simp; done) | (simp; omega) | omega)) | ((with_reducible refine Below.alloc ?_ ?_ _); rotate_left; · (first | exact Nat.le_refl _ | (simp; done) | (simp; omega) | omega)) | (with_reducible apply Below.drew) | (with_reducible apply below_drewN') | (refine Below.trans ?_ (Below.mono (by assumption) (by first | exact Nat.le_refl _ | (simp; done) | (simp; omega) | omega))) | exact Below.refl _ _ | assumption))
  case ca5R234 => (first | (simp [Act.put]; done) | (simp [Act.put, *]; done))
  try dsimp only
  refine wpW_det (t' := ?ct6R234) 6 (by rfl) (by kernel_rfl) (NQ_free _) (by kernel_rfl) ?cw6R234 ?ch6R234 ?ca6R234 (Eq.refl _) ?cH6R234
  case cw6R234 => (go_simp; done)
  case ch6R234 =>
    intro ds w' hS K hK
    have hc := (bcellB hS).1
    have hf := (bcellB hS).2
    have hz := hS.size
    try simp at hz
    go_simp
    try go_bits
    first
      | exact hK _ hS (Gr.refl _)
      | exact hK _ (by repeat (first | (with_reducible exact Below.refl _ _) | (with_reducible assumption) | ((with_reducible refine Below.setCell ?_ ?_ _); rotate_left; · (first | exact Nat.le_refl _ | (simp; done) | (simp; omega) | omega)) | ((with_reducible refine Below.alloc ?_ ?_ _); rotate_left; · (first | exact Nat.le_refl _ | (simp; done) | (simp; omega) | omega)) | (with_reducible apply Below.drew) | (with_reducible apply below_drewN') | (refine Below.trans ?_ (Below.mono (by assumption) (by first | exact Nat.le_refl _ | (simp; done) | (simp; omega) | omega))) | exact Below.refl _ _ | assumption)) (by repeat (first | (with_reducible exact Below.refl _ _) | (with_reducible assumption) | ((with_reducible refine Below.setCell ?_ ?_ _); rotate_left; · (first | exact Nat.le_refl _ | (simp; done) | (simp; omega) | omega)) | ((with_reducible refine Below.alloc ?_ ?_ _); rotate_left; · (first | exact Nat.le_refl _ | (simp; done) | (simp; omega) | omega)) | (with_reducible apply Below.drew) | (with_reducible apply below_drewN') | (refine Below.trans ?_ (Below.mono (by assumption) (by first | exact Nat.le_refl _ | (simp; done) | (simp; omega) | omega))) | exact Below.refl _ _ | assumption))
  case ca6R234 => (first | (simp [Act.put]; done) | (simp [Act.put, *]; done))
  try dsimp only
  refine wpW_branch [7] (by kernel_rfl) (by simp) ?_
  intro w1 hg1 hS1
  have M := LbM.gr M hg1
  refine each_cons ?_ (each_nil)
  · refine wpOp_go (by rfl) (Eq.refl _) (by go_simp; done) ?_
    intro K hK
    have hrun := run_copy_cells (P := Tryz.prog) w1 37 37 3 3 p k (n - k) (n - k) ⟨p, 0, none⟩ k n (intsC (List.replicate c (-1))) Tryz.underlying37 infoIntSize (by rw [intsC_len, List.length_replicate, HCE.out]) (fun j v hj => by
        obtain ⟨x, h1, rfl⟩ := intsC_get hj
        rw [List.getElem?_replicate] at h1
        split at h1
        · rename_i hjc
          obtain rfl : -1 = x := by simpa using h1
          have := M.cell (k := j) (x := -1) (by rw [List.getElem?_append_left (by simp; omega), List.getElem?_replicate, if_pos (by omega)])
          rw [Addr.add_lit, Nat.zero_add]; exact this
        · cases h1) (fun j hj => by
        rw [intsC_len, List.length_replicate] at hj
        have := M.cell (k := k + j) (x := 0) (by rw [List.getElem?_append_right (by simp), List.getElem?_replicate]; simp; omega)
        rw [this]; rfl) (fun j _ => M.frozen (k + j)) intsC_one
    rw [intsC_len, List.length_replicate] at hrun
    refine wp_copy_runI _ (.tmp 41) (.tmp 44) 37 37 rfl (.slice (some ⟨p, k, none⟩) (n - k) (n - k)) (.slice (some ⟨p, 0, none⟩) k n) ?hd ?hs (v' := .int .i64 c) (w' := w1.setCells p k (intsC (List.replicate c (-1)))) ?hr ?_
    case hd => first | rfl | skip
    case hs => first | rfl | skip
    case hr => exact hrun
    try simp only [Act.put]
    try simp only [List.setIfInBounds_toArray]
    have M2 := M.puts (List.replicate c (-1)) k
    rw [puts_rep _ _ _ _ _ hc] at M2
    refine hK _ _ (below_puts M.low _ _ hS1) ?_
    clear hK K M hrun
    have M := M2
    refine wpW_det (t' := ?ct8R235) 8 (by rfl) (by kernel_rfl) (NQ_free _) (by kernel_rfl) ?cw8R235 ?ch8R235 ?ca8R235 (Eq.refl _) ?cH8R235
    case cw8R235 => (go_simp; done)
    case ch8R235 =>
      intro ds w' hS K hK
      have hc := (bcellB hS).1
      have hf := (bcellB hS).2
      have hz := hS.size
      try simp at hz
      go_simp
      try go_bits
      first
        | exact hK _ hS (Gr.refl _)
        | exact hK _ (by repeat (first | (with_reducible exact Below.refl _ _) | (with_reducible assumption) | ((with_reducible refine Below.setCell ?_ ?_ _); rotate_left; · (first | exact Nat.le_refl _ | (simp; done) | (simp; omega) | omega)) | ((with_reducible refine Below.alloc ?_ ?_ _); rotate_left; · (first | exact Nat.le_refl _ | (simp; done) | (simp; omega) | omega)) | (with_reducible apply Below.drew) | (with_reducible apply below_drewN') | (refine Below.trans ?_ (Below.mono (by assumption) (by first | exact Nat.le_refl _ | (simp; done) | (simp; omega) | omega))) | exact Below.refl _ _ | assumption)) (by repeat (first | (with_reducible exact Below.refl _ _) | (with_reducible assumption) | ((with_reducible refine Below.setCell ?_ ?_ _); rotate_left; · (first | exact Nat.le_refl _ | (simp; done) | (simp; omega) | omega)) | ((with_reducible refine Below.alloc ?_ ?_ _); rotate_left; · (first | exact Nat.le_refl _ | (simp; done) | (simp; omega) | omega)) | (with_reducible apply Below.drew) | (with_reducible apply below_drewN') | (refine Below.trans ?_ (Below.mono (by assumption) (by first | exact Nat.le_refl _ | (simp; done) | (simp; omega) | omega))) | exact Below.refl _ _ | assumption))
    case ca8R235 => (first | (simp [Act.put]; done) | (simp [Act.put, *]; done))
    try dsimp only
    refine wpW_det (t' := ?ct9R235) 9 (by rfl) (by kernel_rfl) (NQ_free _) (by kernel_rfl) ?cw9R235 ?ch9R235 ?ca9R235 (Eq.refl _) ?cH9R235
    case cw9R235 => (go_simp; done)
    case ch9R235 =>
      intro ds w' hS K hK
      have hc := (bcellB hS).1
      have hf := (bcellB hS).2
      have hz := hS.size
      try simp at hz
      go_simp
      try go_bits
      first
        | exact hK _ hS (Gr.refl _)
        | exact hK _ (by repeat (first | (with_reducible exact Below.refl _ _) | (with_reducible assumption) | ((with_reducible refine Below.setCell ?_ ?_ _); rotate_left; · (first | exact Nat.le_refl _ | (simp; done) | (simp; omega) | omega)) | ((with_reducible refine Below.alloc ?_ ?_ _); rotate_left; · (first | exact Nat.le_refl _ | (simp; done) | (simp; omega) | omega)) | (with_reducible apply Below.drew) | (with_reducible apply below_drewN') | (refine Below.trans ?_ (Below.mono (by assumption) (by first | exact Nat.le_refl _ | (simp; done) | (simp; omega) | omega))) | exact Below.refl _ _ | assumption)) (by repeat (first | (with_reducible exact Below.refl _ _) | (with_reducible assumption) | ((with_reducible refine Below.setCell ?_ ?_ _); rotate_left; · (first | exact Nat.le_refl _ | (simp; done) | (simp; omega) | omega)) | ((with_reducible refine Below.alloc ?_ ?_ _); rotate_left; · (first | exact Nat.le_refl _ | (simp; done) | (simp; omega) | omega)) | (with_reducible apply Below.drew) | (with_reducible apply below_drewN') | (refine Below.trans ?_ (Below.mono (by assumption) (by first | exact Nat.le_refl _ | (simp; done) | (simp; omega) | omega))) | exact Below.refl _ _ | assumption))
    case ca9R235 => (first | (simp [Act.put]; done) | (simp [Act.put, *]; done))
    try dsimp only
    refine wpW_end (by kernel_rfl) ?_
    intro we hg hS
    unfold NQ
    dsimp only
    exact H.out _ _ _ _ _ _ _ _ _ we (LbM.gr M hg)

set_option maxRecDepth 100000 in
set_option maxHeartbeats 4000000 in
theorem repLoop {V wr0 : World} {p n k : Nat} (hn : n ≤ 1000) (hk : k ≤ n) (hk1 : 1 ≤ k ∨ n = 0) (M : LbM V p n (List.replicate k (-1) ++ List.replicate (n - k) 0) wr0) {t0 t1 t2 t3 t4 t5 t6 t9 t10 t11 t12 t13 t14 t15 t16 t17 t18 t19 t20 t21 t22 t23 t24 t25 t26 t27 t28 t29 t30 t31 t32 t33 t34 t35 t36 t37 t38 t39 t40 t41 t42 t43 t44 t45 t46 t47 : Value} {ds : List Deferred} (Q' : Exit → Act → World → Prop)
    (h : ∀ (t8 t34 t35 t36 t37 t38 t39 t40 t41 t42 t43 t44 t45 t46 : Value) (w' : World), LbM V p n (List.replicate n (-1)) w' → Q' (.exit 0) ⟨#[t0, t1, t2, t3, t4, t5, t6, .slice (some ⟨p, 0, none⟩) n n, t8, t9, t10, t11, t12, t13, t14, t15, t16, t17, t18, t19, t20, t21, t22, t23, t24, t25, t26, t27, t28, t29, t30, t31, t32, t33, t34, t35, t36, t37, t38, t39, t40, t41, t42, t43, t44, t45, t46, t47], ds⟩ w') :
    (Code.loop (bodyOf Tryz.f158 0)).wp Tryz.prog Q' ⟨#[t0, t1, t2, t3, t4, t5, t6, .slice (some ⟨p, 0, none⟩) n n, .int .i64 k, t9, t10, t11, t12, t13, t14, t15, t16, t17, t18, t19, t20, t21, t22, t23, t24, t25, t26, t27, t28, t29, t30, t31, t32, t33, t34, t35, t36, t37, t38, t39, t40, t41, t42, t43, t44, t45, t46, t47], ds⟩ wr0 := by
  have H := Lib.hid h; clear h
  conv in (bodyOf _ _) => whnf
  dsimp only
  go_loopw [8] (fun s8 wr => ∃ k : Nat, k ≤ n ∧ (1 ≤ k ∨ n = 0) ∧ s8 = .int .i64 k ∧ LbM V p n (List.replicate k (-1) ++ List.replicate (n - k) 0) wr) (fun s8 _ => n - (intOf s8).toNat)
  case atStart => exact ⟨k, hk, hk1, rfl, M⟩
  case round =>
    clear M hk hk1
    obtain ⟨k, hk, hk1, rfl, M⟩ := hrel
    by_cases hlt : k < n
    · have i1 : ((k : Int) < (n : Int)) := by omega
      go_upto_region 9 with fail
      refine repReg9 hn hlt (by omega) M _ ?_
      intro t38 t39 t40 t41 t42 t43 t44 t45 t46 w' M2
      have hc : Nat.min k (n - k) ≤ n - k := Nat.min_le_right _ _
      have hc0 : 1 ≤ Nat.min k (n - k) := Nat.le_min.2 ⟨by omega, by omega⟩
      obtain ⟨c, hce⟩ : ∃ c, Nat.min k (n - k) = c := ⟨_, rfl⟩
      rw [hce] at M2 hc hc0
      try rw [hce]
      try go_wp2
      refine ⟨⟨k + c, by omega, .inl (by omega), rfl, ?_⟩, by simp [intOf]; omega⟩
      rw [show n - (k + c) = n - k - c by omega]; exact M2
    · obtain rfl : k = n := by omega
      go_wp2
      refine H.out _ _ _ _ _ _ _ _ _ _ _ _ _ _ wr ?_
      rw [Nat.sub_self, List.replicate_zero, List.append_nil] at M
      exact M
theorem bitsMul1 (n : Nat) (hn : n ≤ 1000) (w : World) : Calls Tryz.prog 186 #[.int .u64 1, .int .u64 n] w fun e w' => e = .returned (.tuple #[.int .u64 0, .int .u64 n]) ∧ w' = w := by
  refine (bitsMul_any 1 n (by omega) (by omega) w).mono ?_
  rintro e w' ⟨rfl, h⟩
  refine ⟨?_, h⟩
  rw [Nat.one_mul, Nat.div_eq_of_lt (by omega), Nat.mod_eq_of_lt (by omega)]
  rfl

set_option maxRecDepth 100000 in
set_option maxHeartbeats 4000000 in
theorem repeat_any (n : Nat) (hn : n ≤ 1000) (g : Nat) (w : World) (c0 : w.cell? ⟨g, 0, none⟩ = some (.int .i64 (-1))) (hg : g < w.heap.size) :
    Calls Tryz.prog 158 #[.slice (some ⟨g, 0, none⟩) 1 1, .int .i64 n] w fun e w' => ∃ p, e = .returned (.slice (some ⟨p, 0, none⟩) n n) ∧ LbM w p n (List.replicate n (-1)) w' := by
  obtain ⟨i0, hi, hz0, hz1, hz2⟩ := info_parts infoInt
  have m0 : ¬ ((n : Int) < 0) := by omega
  have m1 : ¬ ((9223372036854775807 : Int) < (n : Int)) := by omega
  have m2 : (n : Int) ≤ 1000 := by omega
  have C0 := Lib.hid c0; clear c0
  go_enter Tryz.func158, Tryz.ntmps158
  go_wp2_with (first | (go_at_call 186; refine (bitsMul1 n hn _).mono ?_; rintro e w' ⟨rfl, hw⟩; rw [hw]) | (at_make; refine wpList_make_full _ rfl _ _ 37 rfl w.heap.size 3 i0 (.int .i64 0) 1 Tryz.underlying37 hi hz0 hz1 .i64 .i64 _ _ n rfl rfl rfl rfl (by rw [hz2]; omega) (by unfold maxLen; omega) (Nat.le_refl _) ?_; intro w2 own2 hgrow))
  rw [made_ints] at own2
  have M0 : LbM w w.heap.size n (List.replicate n 0) w2 := ⟨own2, (Below.refl _ _).grown hgrow (Nat.le_refl _) (fun q e => by cases e)⟩
  have c2 : w2.cell? ⟨g, 0, none⟩ = some (.int .i64 (-1)) := (M0.below.cell (p := ⟨g, 0, none⟩) hg).trans C0.out
  clear own2 hgrow
  obtain ⟨p, hp⟩ : ∃ p, w.heap.size = p := ⟨_, rfl⟩
  rw [hp] at M0 ⊢
  by_cases h0 : n = 0
  · subst h0
    have hrun := run_copy_none (P := Tryz.prog) w2 37 37 3 3 (some ⟨p, 0, none⟩) (some ⟨g, 0, none⟩) 0 0 1 1 Tryz.underlying37 infoIntSize rfl
    rw [hrun]
    go_wp2
    have hlp := repLoop (V := w) (wr0 := w2) (p := p) (n := 0) (k := 0) (by omega) (by omega) (.inr rfl)
    unfold bodyOf at hlp
    conv at hlp in (Option.getD _ Code.skip) => whnf
    refine hlp M0 _ ?_
    clear hlp
    intro t8 t34 t35 t36 t37 t38 t39 t40 t41 t42 t43 t44 t45 t46 w3 M3
    go_wp2
    go_ret
    exact ⟨p, rfl, M3⟩
  · have hf : ∀ j : Nat, w2.frozen? ⟨p, 0 + j, none⟩ = false := fun j => M0.frozen _
    have hrun := run_copy_cells (P := Tryz.prog) w2 37 37 3 3 p 0 n n ⟨g, 0, none⟩ 1 1 (intsC [-1]) Tryz.underlying37 infoIntSize (show 1 = Nat.min 1 n from (Nat.min_eq_left (by omega)).symm) (fun j v hj => by
        obtain ⟨x, h1, rfl⟩ := intsC_get hj
        match j, h1 with
        | 0, h1 => (obtain rfl : -1 = x := by simpa using h1); rw [Addr.add_lit]; exact c2
        | j + 1, h1 => simp at h1) (fun j hj => by
        have hj : j < 1 := hj
        have := M0.cell (k := j) (x := 0) (by rw [List.getElem?_replicate, if_pos (by omega)])
        rw [Nat.zero_add, this]; rfl) (fun j _ => hf j) intsC_one
    have M1 := M0.puts [-1] 0
    have hpr : putsL (List.replicate n 0) 0 [-1] = List.replicate 1 (-1) ++ List.replicate (n - 1) 0 := by
      have := puts_rep (-1) 0 1 0 n (by omega)
      simpa using this
    rw [hpr] at M1
    rw [hrun]
    clear hf hrun hpr M0 c2
    obtain ⟨w4, hw4⟩ : ∃ w4, w2.setCells p 0 (intsC [-1]) = w4 := ⟨_, rfl⟩
    rw [hw4] at M1 ⊢
    clear hw4
    go_wp2
    have hlp := repLoop (V := w) (wr0 := w4) (p := p) (n := n) (k := 1) hn (by omega) (.inl (by omega))
    unfold bodyOf at hlp
    conv at hlp in (Option.getD _ Code.skip) => whnf
    refine hlp M1 _ ?_
    clear hlp
    intro t8 t34 t35 t36 t37 t38 t39 t40 t41 t42 t43 t44 t45 t46 w3 M3
    go_wp2
    go_ret
    exact ⟨p, rfl, M3⟩
end Go.Proofs.YtidgeagpgllkeaaGreat

namespace Go.Proofs.YtidgeagpgllkeaaGreat
open Go.RowKit

theorem own_lower {W : World} {base base' e size n : Nat} {v : Value} {xs : List Value} (h : W.ownsRow base e size v n xs) (hb : base' ≤ base) : W.ownsRow base' e size v n xs := by
  refine ⟨h.1, ?_⟩
  rcases h.2 with h0 | ⟨g', cap, cur, hv, hbs, r⟩
  · exact .inl h0
  · exact .inr ⟨g', cap, cur, hv, Nat.le_trans hb hbs, r⟩
theorem LbM.far {V W : World} {p N q i : Nat} {F : List Int} {u : Value} (h : LbM V p N F W) (hq : p ≠ q) (hl : V.heap.size ≤ q) : LbM V p N F (W.setCell ⟨q, i, none⟩ u) :=
  ⟨ownsRow_setCell_other h.own (by simp [Value.ownBlock]; exact hq) u, h.below.setCell hl u⟩
/-- Two lists, and partners, in memory. -/
structure MaM (V : World) (q p0 p1 : Nat) (a0 a1 : Value) (n0 n1 : Nat) (slack : Int) (F0 F1 : List Int) (W : World) : Prop where
  box : Blk W q 200 #[a0, a1, .int .i64 slack, .slice (some ⟨p0, 0, none⟩) n0 n0, .slice (some ⟨p1, 0, none⟩) n1 n1]
  r0 : LbM V p0 n0 F0 W
  r1 : LbM V p1 n1 F1 W
  ne : p0 ≠ p1
  low : V.heap.size ≤ q
section
variable {V W W' : World} {q p0 p1 n0 n1 : Nat} {a0 a1 : Value} {slack : Int} {F0 F1 : List Int}
theorem MaM.gr (h : MaM V q p0 p1 a0 a1 n0 n1 slack F0 F1 W) (hk : Gr W W') : MaM V q p0 p1 a0 a1 n0 n1 slack F0 F1 W' := ⟨h.box.gr hk, h.r0.gr hk, h.r1.gr hk, h.ne, h.low⟩
theorem MaM.drew (h : MaM V q p0 p1 a0 a1 n0 n1 slack F0 F1 W) : MaM V q p0 p1 a0 a1 n0 n1 slack F0 F1 W.drew := ⟨h.box, h.r0.drew, h.r1.drew, h.ne, h.low⟩
theorem MaM.ne0 (h : MaM V q p0 p1 a0 a1 n0 n1 slack F0 F1 W) : q ≠ p0 := fun e => own_blk_ne h.r0.own h.box (by decide) (by rw [e]; rfl)
theorem MaM.ne1 (h : MaM V q p0 p1 a0 a1 n0 n1 slack F0 F1 W) : q ≠ p1 := fun e => own_blk_ne h.r1.own h.box (by decide) (by rw [e]; rfl)
theorem MaM.put0 (h : MaM V q p0 p1 a0 a1 n0 n1 slack F0 F1 W) (k : Nat) (x : Int) : MaM V q p0 p1 a0 a1 n0 n1 slack (F0.set k x) F1 (W.setCell ⟨p0, k, none⟩ (.int .i64 x)) :=
  ⟨h.box.far (p := ⟨p0, k, none⟩) h.ne0 _, h.r0.put k x, h.r1.far (fun e => h.ne e.symm) h.r0.low, h.ne, h.low⟩
theorem MaM.put1 (h : MaM V q p0 p1 a0 a1 n0 n1 slack F0 F1 W) (k : Nat) (x : Int) : MaM V q p0 p1 a0 a1 n0 n1 slack F0 (F1.set k x) (W.setCell ⟨p1, k, none⟩ (.int .i64 x)) :=
  ⟨h.box.far (p := ⟨p1, k, none⟩) h.ne1 _, h.r0.far h.ne h.r1.low, h.r1.put k x, h.ne, h.low⟩
end
def openE (l0 l1 : List Mk) (slack : Int) : Int := firstE [(marksE l0).2, (marksE l1).2, slackE slack]

set_option maxRecDepth 100000 in
set_option maxHeartbeats 4000000 in
/-- The partners of list 0 (region 8, round 0). -/
theorem openReg8_0 {V W : World} {q n c : Nat} {A : Option Addr} {x0 x1 x2 x3 x4 : Value} (hV : Below V.heap.size V W) (hq : V.heap.size ≤ q) (hn : n ≤ 1000) (b : Blk W q 200 #[x0, x1, x2, x3, x4]) {t0 t1 t2 t3 t4 t5 t6 t10 t11 t12 t13 t14 t15 t16 t17 t18 t19 t20 t21 t22 t23 t24 t25 t26 t27 t28 t29 t30 t31 t32 t33 t34 t35 t36 t37 t38 t39 t40 t41 t42 : Value} {ds : List Deferred} (Q : Exit → Act → World → Prop)
    (h : ∀ (t32 t33 t34 t35 t36 t37 t38 t39 t40 : Value) (p : Nat) (w' : World), Blk w' q 200 #[x0, x1, x2, .slice (some ⟨p, 0, none⟩) n n, x4] → LbM V p n (List.replicate n (-1)) w' → Q .normal ⟨#[t0, t1, t2, t3, t4, t5, t6, .pointer (some ⟨q, 0, none⟩), .int .i64 0, .slice A n c, t10, t11, t12, t13, t14, t15, t16, t17, t18, t19, t20, t21, t22, t23, t24, t25, t26, t27, t28, t29, t30, t31, t32, t33, t34, t35, t36, t37, t38, t39, t40, t41, t42], ds⟩ w') :
    (regOf Tryz.f132 8).wp Tryz.prog Q ⟨#[t0, t1, t2, t3, t4, t5, t6, .pointer (some ⟨q, 0, none⟩), .int .i64 0, .slice A n c, t10, t11, t12, t13, t14, t15, t16, t17, t18, t19, t20, t21, t22, t23, t24, t25, t26, t27, t28, t29, t30, t31, t32, t33, t34, t35, t36, t37, t38, t39, t40, t41, t42], ds⟩ W := by
  have H := Lib.hid h; clear h
  have b := b.drew
  skip
  have hV1 : Below V.heap.size V W.drew := hV.drew
  conv in (regOf _ _) => whnf
  refine wp_region_w (fun w' => Below V.heap.size _ w') (by kernel_rfl) (Below.refl _ _).drew ?_
  refine wpW_det (t' := ?ct0R236) 0 (by rfl) (by kernel_rfl) (NQ_free _) (by kernel_rfl) ?cw0R236 ?ch0R236 ?ca0R236 (Eq.refl _) ?cH0R236
  case cw0R236 => (go_simp; done)
  case ch0R236 =>
    intro ds w' hS K hK
    have hc := (bcellB hS).1
    have hf := (bcellB hS).2
    have hz := hS.size
    try simp at hz
    go_simp
    try go_bits
    first
      | exact hK _ hS (Gr.refl _)
      | exact hK _ (by repeat (first | (with_reducible exact Below.refl _ _) | (with_reducible assumption) | ((with_reducible refine Below.setCell ?_ ?_ _); rotate_left; · (first | exact Nat.le_refl _ | (simp; done) | (simp; omega) | omega)) | ((with_reducible refine Below.alloc ?_ ?_ _); rotate_left; · (first | exact Nat.le_refl _ | (simp; done) | (simp; omega) | omega)) | (with_reducible apply Below.drew) | (with_reducible apply below_drewN') | (refine Below.trans ?_ (Below.mono (by assumption) (by first | exact Nat.le_refl _ | (simp; done) | (simp; omega) | omega))) | exact Below.refl _ _ | assumption)) (by repeat (first | (with_reducible exact Below.refl _ _) | (with_reducible assumption) | ((with_reducible refine Below.setCell ?_ ?_ _); rotate_left; · (first | exact Nat.le_refl _ | (simp; done) | (simp; omega) | omega)) | ((with_reducible refine Below.alloc ?_ ?_ _); rotate_left; · (first | exact Nat.le_refl _ | (simp; done) | (simp; omega) | omega)) | (with_reducible apply Below.drew) | (with_reducible apply below_drewN') | (refine Below.trans ?_ (Below.mono (by assumption) (by first | exact Nat.le_refl _ | (simp; done) | (simp; omega) | omega))) | exact Below.refl _ _ | assumption))
  case ca0R236 => (first | (simp [Act.put]; done) | (simp [Act.put, *]; done))
  try dsimp only
  refine wpW_det (t' := ?ct1R236) 1 (by rfl) (by kernel_rfl) (NQ_free _) (by kernel_rfl) ?cw1R236 ?ch1R236 ?ca1R236 (Eq.refl _) ?cH1R236
  case cw1R236 => (go_simp; done)
  case ch1R236 =>
    intro ds w' hS K hK
    have hc := (bcellB hS).1
    have hf := (bcellB hS).2
    have hz := hS.size
    try simp at hz
    go_simp
    try go_bits
    first
      | exact hK _ hS (Gr.refl _)
      | exact hK _ (by repeat (first | (with_reducible exact Below.refl _ _) | (with_reducible assumption) | ((with_reducible refine Below.setCell ?_ ?_ _); rotate_left; · (first | exact Nat.le_refl _ | (simp; done) | (simp; omega) | omega)) | ((with_reducible refine Below.alloc ?_ ?_ _); rotate_left; · (first | exact Nat.le_refl _ | (simp; done) | (simp; omega) | omega)) | (with_reducible apply Below.drew) | (with_reducible apply below_drewN') | (refine Below.trans ?_ (Below.mono (by assumption) (by first | exact Nat.le_refl _ | (simp; done) | (simp; omega) | omega))) | exact Below.refl _ _ | assumption)) (by repeat (first | (with_reducible exact Below.refl _ _) | (with_reducible assumption) | ((with_reducible refine Below.setCell ?_ ?_ _); rotate_left; · (first | exact Nat.le_refl _ | (simp; done) | (simp; omega) | omega)) | ((with_reducible refine Below.alloc ?_ ?_ _); rotate_left; · (first | exact Nat.le_refl _ | (simp; done) | (simp; omega) | omega)) | (with_reducible apply Below.drew) | (with_reducible apply below_drewN') | (refine Below.trans ?_ (Below.mono (by assumption) (by first | exact Nat.le_refl _ | (simp; done) | (simp; omega) | omega))) | exact Below.refl _ _ | assumption))
  case ca1R236 => (first | (simp [Act.put]; done) | (simp [Act.put, *]; done))
  try dsimp only
  refine wpW_det (t' := ?ct3R236) 3 (by rfl) (by kernel_rfl) (NQ_free _) (by kernel_rfl) ?cw3R236 ?ch3R236 ?ca3R236 (Eq.refl _) ?cH3R236
  case cw3R236 => (go_simp; done)
  case ch3R236 =>
    intro ds w' hS K hK
    have hc := (bcellB hS).1
    have hf := (bcellB hS).2
    have hz := hS.size
    try simp at hz
    go_simp
    try go_bits
    first
      | exact hK _ hS (Gr.refl _)
      | exact hK _ (by repeat (first | (with_reducible exact Below.refl _ _) | (with_reducible assumption) | ((with_reducible refine Below.setCell ?_ ?_ _); rotate_left; · (first | exact Nat.le_refl _ | (simp; done) | (simp; omega) | omega)) | ((with_reducible refine Below.alloc ?_ ?_ _); rotate_left; · (first | exact Nat.le_refl _ | (simp; done) | (simp; omega) | omega)) | (with_reducible apply Below.drew) | (with_reducible apply below_drewN') | (refine Below.trans ?_ (Below.mono (by assumption) (by first | exact Nat.le_refl _ | (simp; done) | (simp; omega) | omega))) | exact Below.refl _ _ | assumption)) (by repeat (first | (with_reducible exact Below.refl _ _) | (with_reducible assumption) | ((with_reducible refine Below.setCell ?_ ?_ _); rotate_left; · (first | exact Nat.le_refl _ | (simp; done) | (simp; omega) | omega)) | ((with_reducible refine Below.alloc ?_ ?_ _); rotate_left; · (first | exact Nat.le_refl _ | (simp; done) | (simp; omega) | omega)) | (with_reducible apply Below.drew) | (with_reducible apply below_drewN') | (refine Below.trans ?_ (Below.mono (by assumption) (by first | exact Nat.le_refl _ | (simp; done) | (simp; omega) | omega))) | exact Below.refl _ _ | assumption))
  case ca3R236 => (first | (simp [Act.put]; done) | (simp [Act.put, *]; done))
  try dsimp only
  refine wpW_det (t' := ?ct4R236) 4 (by rfl) (by kernel_rfl) (NQ_free _) (by kernel_rfl) ?cw4R236 ?ch4R236 ?ca4R236 (Eq.refl _) ?cH4R236
  case cw4R236 => (go_simp; done)
  case ch4R236 =>
    intro ds w' hS K hK
    have hc := (bcellB hS).1
    have hf := (bcellB hS).2
    have hz := hS.size
    try simp at hz
    go_simp
    try go_bits
    first
      | exact hK _ hS (Gr.refl _)
      | exact hK _ (by repeat (first | (with_reducible exact Below.refl _ _) | (with_reducible assumption) | ((with_reducible refine Below.setCell ?_ ?_ _); rotate_left; · (first | exact Nat.le_refl _ | (simp; done) | (simp; omega) | omega)) | ((with_reducible refine Below.alloc ?_ ?_ _); rotate_left; · (first | exact Nat.le_refl _ | (simp; done) | (simp; omega) | omega)) | (with_reducible apply Below.drew) | (with_reducible apply below_drewN') | (refine Below.trans ?_ (Below.mono (by assumption) (by first | exact Nat.le_refl _ | (simp; done) | (simp; omega) | omega))) | exact Below.refl _ _ | assumption)) (by repeat (first | (with_reducible exact Below.refl _ _) | (with_reducible assumption) | ((with_reducible refine Below.setCell ?_ ?_ _); rotate_left; · (first | exact Nat.le_refl _ | (simp; done) | (simp; omega) | omega)) | ((with_reducible refine Below.alloc ?_ ?_ _); rotate_left; · (first | exact Nat.le_refl _ | (simp; done) | (simp; omega) | omega)) | (with_reducible apply Below.drew) | (with_reducible apply below_drewN') | (refine Below.trans ?_ (Below.mono (by assumption) (by first | exact Nat.le_refl _ | (simp; done) | (simp; omega) | omega))) | exact Below.refl _ _ | assumption))
  case ca4R236 => (first | (simp [Act.put]; done) | (simp [Act.put, *]; done))
  try dsimp only
  refine wpW_det (t' := ?ct6R236) 6 (by rfl) (by kernel_rfl) (NQ_free _) (by kernel_rfl) ?cw6R236 ?ch6R236 ?ca6R236 (Eq.refl _) ?cH6R236
  case cw6R236 => (go_simp; done)
  case ch6R236 =>
    intro ds w' hS K hK
    have hc := (bcellB hS).1
    have hf := (bcellB hS).2
    have hz := hS.size
    try simp at hz
    go_simp
    try go_bits
    first
      | exact hK _ hS (Gr.refl _)
      | exact hK _ (by repeat (first | (with_reducible exact Below.refl _ _) | (with_reducible assumption) | ((with_reducible refine Below.setCell ?_ ?_ _); rotate_left; · (first | exact Nat.le_refl _ | (simp; done) | (simp; omega) | omega)) | ((with_reducible refine Below.alloc ?_ ?_ _); rotate_left; · (first | exact Nat.le_refl _ | (simp; done) | (simp; omega) | omega)) | (with_reducible apply Below.drew) | (with_reducible apply below_drewN') | (refine Below.trans ?_ (Below.mono (by assumption) (by first | exact Nat.le_refl _ | (simp; done) | (simp; omega) | omega))) | exact Below.refl _ _ | assumption)) (by repeat (first | (with_reducible exact Below.refl _ _) | (with_reducible assumption) | ((with_reducible refine Below.setCell ?_ ?_ _); rotate_left; · (first | exact Nat.le_refl _ | (simp; done) | (simp; omega) | omega)) | ((with_reducible refine Below.alloc ?_ ?_ _); rotate_left; · (first | exact Nat.le_refl _ | (simp; done) | (simp; omega) | omega)) | (with_reducible apply Below.drew) | (with_reducible apply below_drewN') | (refine Below.trans ?_ (Below.mono (by assumption) (by first | exact Nat.le_refl _ | (simp; done) | (simp; omega) | omega))) | exact Below.refl _ _ | assumption))
  case ca6R236 => (first | (simp [Act.put]; done) | (simp [Act.put, *]; done))
  try dsimp only
  refine wpW_det (t' := ?ct7R236) 7 (by rfl) (by kernel_rfl) (NQ_free _) (by kernel_rfl) ?cw7R236 ?ch7R236 ?ca7R236 (Eq.refl _) ?cH7R236
  case cw7R236 => (go_simp; done)
  case ch7R236 =>
    intro ds w' hS K hK
    have hc := (bcellB hS).1
    have hf := (bcellB hS).2
    have hz := hS.size
    try simp at hz
    go_simp
    try go_bits
    first
      | exact hK _ hS (Gr.refl _)
      | exact hK _ (by repeat (first | (with_reducible exact Below.refl _ _) | (with_reducible assumption) | ((with_reducible refine Below.setCell ?_ ?_ _); rotate_left; · (first | exact Nat.le_refl _ | (simp; done) | (simp; omega) | omega)) | ((with_reducible refine Below.alloc ?_ ?_ _); rotate_left; · (first | exact Nat.le_refl _ | (simp; done) | (simp; omega) | omega)) | (with_reducible apply Below.drew) | (with_reducible apply below_drewN') | (refine Below.trans ?_ (Below.mono (by assumption) (by first | exact Nat.le_refl _ | (simp; done) | (simp; omega) | omega))) | exact Below.refl _ _ | assumption)) (by repeat (first | (with_reducible exact Below.refl _ _) | (with_reducible assumption) | ((with_reducible refine Below.setCell ?_ ?_ _); rotate_left; · (first | exact Nat.le_refl _ | (simp; done) | (simp; omega) | omega)) | ((with_reducible refine Below.alloc ?_ ?_ _); rotate_left; · (first | exact Nat.le_refl _ | (simp; done) | (simp; omega) | omega)) | (with_reducible apply Below.drew) | (with_reducible apply below_drewN') | (refine Below.trans ?_ (Below.mono (by assumption) (by first | exact Nat.le_refl _ | (simp; done) | (simp; omega) | omega))) | exact Below.refl _ _ | assumption))
  case ca7R236 => (first | (simp [Act.put]; done) | (simp [Act.put, *]; done))
  try dsimp only
  refine wpW_branch [2] (by kernel_rfl) (by simp) ?_
  intro w1 hg1 hS1
  have hV1 := hV1.trans (hg1.mono (Below.size hV1))
  have b := b.gr hg1
  try skip
  try have c0 := (hg1.cell (p := ⟨g, 0, none⟩) hgl).trans c0
  try have hgl := Nat.lt_of_lt_of_le hgl (Below.size hg1)
  try have M := LbM.gr M hg1
  have zz := blk5c b
  obtain ⟨z0, z1, z2, z3, z4, zf⟩ := zz
  have lq := b.lt
  refine each_cons ?_ (each_nil)
  · refine wpOp_go (by rfl) (Eq.refl _) (by go_simp; done) ?_
    intro K hK
    go_simp
    try simp only [Act.put]
    have bg := Blk.new w1 3 #[.int .i64 (-1)]
    have c0 := bg.cell 0
    have hgl := bg.lt
    obtain ⟨g, hge⟩ : ∃ g, w1.heap.size = g := ⟨_, rfl⟩
    have hgA : Gr w1 (w1.alloc (.cells #[.int .i64 (-1)] 3)) := (Below.refl _ _).alloc (Nat.le_refl _) _
    have hvz := Below.size hV1
    have hV1 := hV1.trans (hgA.mono (Below.size hV1))
    have b := b.gr hgA
    try skip
    rw [hge] at c0 hgl ⊢
    refine hK _ _ (hS1.alloc hvz _) ?_
    clear hK K hgA bg hge hvz
    refine wpW_branch [5] (by kernel_rfl) (by simp) ?_
    intro w2 hg2 hS2
    have hV1 := hV1.trans (hg2.mono (Below.size hV1))
    have b := b.gr hg2
    try skip
    try have c0 := (hg2.cell (p := ⟨g, 0, none⟩) hgl).trans c0
    try have hgl := Nat.lt_of_lt_of_le hgl (Below.size hg2)
    try have M := LbM.gr M hg2
    have zz := blk5c b
    obtain ⟨z0, z1, z2, z3, z4, zf⟩ := zz
    have lq := b.lt
    refine each_cons ?_ (each_nil)
    · refine wpOp_go (by rfl) (Eq.refl _) (by go_simp; done) ?_
      intro K hK
      go_simp
      try simp only [Act.put]
      refine (repeat_any n hn g _ c0 hgl).mono ?_
      rintro e w8 ⟨p, rfl, M1⟩
      have hg8 : Gr w2 w8 := M1.below
      have hvz := Below.size hV1
      have M : LbM V p n (List.replicate n (-1)) w8 := ⟨own_lower M1.own (Below.size hV1), hV1.trans (hg8.mono (Below.size hV1))⟩
      try skip
      have hV1 := hV1.trans (hg8.mono (Below.size hV1))
      have b := b.gr hg8
      try skip
      refine hK _ _ (hS2.trans (hg8.mono hvz)) ?_
      clear hK K c0 hgl M1 hg8 hvz
      refine wpW_branch [8] (by kernel_rfl) (by simp) ?_
      intro w3 hg3 hS3
      have hV1 := hV1.trans (hg3.mono (Below.size hV1))
      have b := b.gr hg3
      try skip
      try have c0 := (hg3.cell (p := ⟨g, 0, none⟩) hgl).trans c0
      try have hgl := Nat.lt_of_lt_of_le hgl (Below.size hg3)
      try have M := LbM.gr M hg3
      have zz := blk5c b
      obtain ⟨z0, z1, z2, z3, z4, zf⟩ := zz
      have lq := b.lt
      refine each_cons ?_ (each_nil)
      · refine wpOp_go (by rfl) (Eq.refl _) (by go_simp; done) ?_
        intro K hK
        go_simp
        try simp only [Act.put]
        refine hK _ _ hS3 ?_
        clear hK K
        refine wpW_branch [9] (by kernel_rfl) (by simp) ?_
        intro w4 hg4 hS4
        have hV1 := hV1.trans (hg4.mono (Below.size hV1))
        have b := b.gr hg4
        try skip
        try have c0 := (hg4.cell (p := ⟨g, 0, none⟩) hgl).trans c0
        try have hgl := Nat.lt_of_lt_of_le hgl (Below.size hg4)
        try have M := LbM.gr M hg4
        have zz := blk5c b
        obtain ⟨z0, z1, z2, z3, z4, zf⟩ := zz
        have lq := b.lt
        refine each_cons ?_ (each_nil)
        · refine wpOp_go (by rfl) (Eq.refl _) (by go_simp; done) ?_
          intro K hK
          go_simp
          try simp only [Act.put]
          have hqp : p ≠ q := fun e => own_blk_ne M.own b (by decide) (by rw [← e]; rfl)
          have b2 := b.set_ 3 (.slice (some ⟨p, 0, none⟩) n n)
          have M := M.far (i := 3) (u := .slice (some ⟨p, 0, none⟩) n n) hqp hq
          try skip
          try skip
          refine hK _ _ (hS4.setCell hq _) ?_
          clear hK K z0 z1 z2 z3 z4 zf lq
          refine wpW_end (by kernel_rfl) ?_
          intro we hg hS
          unfold NQ
          dsimp only
          exact H.out _ _ _ _ _ _ _ _ _ p we (b2.gr hg) (LbM.gr M hg)

set_option maxRecDepth 100000 in
set_option maxHeartbeats 4000000 in
/-- The partners of list 1 (region 8, round 1). -/
theorem openReg8_1 {V W : World} {q n c : Nat} {A : Option Addr} {x0 x1 x2 x3 x4 : Value} (hV : Below V.heap.size V W) (hq : V.heap.size ≤ q) (hn : n ≤ 1000) (b : Blk W q 200 #[x0, x1, x2, x3, x4]) {p0 n0 : Nat} {F0 : List Int} (M0 : LbM V p0 n0 F0 W) {t0 t1 t2 t3 t4 t5 t6 t10 t11 t12 t13 t14 t15 t16 t17 t18 t19 t20 t21 t22 t23 t24 t25 t26 t27 t28 t29 t30 t31 t32 t33 t34 t35 t36 t37 t38 t39 t40 t41 t42 : Value} {ds : List Deferred} (Q : Exit → Act → World → Prop)
    (h : ∀ (t32 t33 t34 t35 t36 t37 t38 t39 t40 : Value) (p : Nat) (w' : World), Blk w' q 200 #[x0, x1, x2, x3, .slice (some ⟨p, 0, none⟩) n n] → LbM V p n (List.replicate n (-1)) w' → LbM V p0 n0 F0 w' → p0 ≠ p → Q .normal ⟨#[t0, t1, t2, t3, t4, t5, t6, .pointer (some ⟨q, 0, none⟩), .int .i64 1, .slice A n c, t10, t11, t12, t13, t14, t15, t16, t17, t18, t19, t20, t21, t22, t23, t24, t25, t26, t27, t28, t29, t30, t31, t32, t33, t34, t35, t36, t37, t38, t39, t40, t41, t42], ds⟩ w') :
    (regOf Tryz.f132 8).wp Tryz.prog Q ⟨#[t0, t1, t2, t3, t4, t5, t6, .pointer (some ⟨q, 0, none⟩), .int .i64 1, .slice A n c, t10, t11, t12, t13, t14, t15, t16, t17, t18, t19, t20, t21, t22, t23, t24, t25, t26, t27, t28, t29, t30, t31, t32, t33, t34, t35, t36, t37, t38, t39, t40, t41, t42], ds⟩ W := by
  have H := Lib.hid h; clear h
  have b := b.drew
  have M0 := M0.drew
  have hV1 : Below V.heap.size V W.drew := hV.drew
  conv in (regOf _ _) => whnf
  refine wp_region_w (fun w' => Below V.heap.size _ w') (by kernel_rfl) (Below.refl _ _).drew ?_
  refine wpW_det (t' := ?ct0R237) 0 (by rfl) (by kernel_rfl) (NQ_free _) (by kernel_rfl) ?cw0R237 ?ch0R237 ?ca0R237 (Eq.refl _) ?cH0R237
  case cw0R237 => (go_simp; done)
  case ch0R237 =>
    intro ds w' hS K hK
    have hc := (bcellB hS).1
    have hf := (bcellB hS).2
    have hz := hS.size
    try simp at hz
    go_simp
    try go_bits
    first
      | exact hK _ hS (Gr.refl _)
      | exact hK _ (by repeat (first | (with_reducible exact Below.refl _ _) | (with_reducible assumption) | ((with_reducible refine Below.setCell ?_ ?_ _); rotate_left; · (first | exact Nat.le_refl _ | (simp; done) | (simp; omega) | omega)) | ((with_reducible refine Below.alloc ?_ ?_ _); rotate_left; · (first | exact Nat.le_refl _ | (simp; done) | (simp; omega) | omega)) | (with_reducible apply Below.drew) | (with_reducible apply below_drewN') | (refine Below.trans ?_ (Below.mono (by assumption) (by first | exact Nat.le_refl _ | (simp; done) | (simp; omega) | omega))) | exact Below.refl _ _ | assumption)) (by repeat (first | (with_reducible exact Below.refl _ _) | (with_reducible assumption) | ((with_reducible refine Below.setCell ?_ ?_ _); rotate_left; · (first | exact Nat.le_refl _ | (simp; done) | (simp; omega) | omega)) | ((with_reducible refine Below.alloc ?_ ?_ _); rotate_left; · (first | exact Nat.le_refl _ | (simp; done) | (simp; omega) | omega)) | (with_reducible apply Below.drew) | (with_reducible apply below_drewN') | (refine Below.trans ?_ (Below.mono (by assumption) (by first | exact Nat.le_refl _ | (simp; done) | (simp; omega) | omega))) | exact Below.refl _ _ | assumption))
  case ca0R237 => (first | (simp [Act.put]; done) | (simp [Act.put, *]; done))
  try dsimp only
  refine wpW_det (t' := ?ct1R237) 1 (by rfl) (by kernel_rfl) (NQ_free _) (by kernel_rfl) ?cw1R237 ?ch1R237 ?ca1R237 (Eq.refl _) ?cH1R237
  case cw1R237 => (go_simp; done)
  case ch1R237 =>
    intro ds w' hS K hK
    have hc := (bcellB hS).1
    have hf := (bcellB hS).2
    have hz := hS.size
    try simp at hz
    go_simp
    try go_bits
    first
      | exact hK _ hS (Gr.refl _)
      | exact hK _ (by repeat (first | (with_reducible exact Below.refl _ _) | (with_reducible assumption) | ((with_reducible refine Below.setCell ?_ ?_ _); rotate_left; · (first | exact Nat.le_refl _ | (simp; done) | (simp; omega) | omega)) | ((with_reducible refine Below.alloc ?_ ?_ _); rotate_left; · (first | exact Nat.le_refl _ | (simp; done) | (simp; omega) | omega)) | (with_reducible apply Below.drew) | (with_reducible apply below_drewN') | (refine Below.trans ?_ (Below.mono (by assumption) (by first | exact Nat.le_refl _ | (simp; done) | (simp; omega) | omega))) | exact Below.refl _ _ | assumption)) (by repeat (first | (with_reducible exact Below.refl _ _) | (with_reducible assumption) | ((with_reducible refine Below.setCell ?_ ?_ _); rotate_left; · (first | exact Nat.le_refl _ | (simp; done) | (simp; omega) | omega)) | ((with_reducible refine Below.alloc ?_ ?_ _); rotate_left; · (first | exact Nat.le_refl _ | (simp; done) | (simp; omega) | omega)) | (with_reducible apply Below.drew) | (with_reducible apply below_drewN') | (refine Below.trans ?_ (Below.mono (by assumption) (by first | exact Nat.le_refl _ | (simp; done) | (simp; omega) | omega))) | exact Below.refl _ _ | assumption))
  case ca1R237 => (first | (simp [Act.put]; done) | (simp [Act.put, *]; done))
  try dsimp only
  refine wpW_det (t' := ?ct3R237) 3 (by rfl) (by kernel_rfl) (NQ_free _) (by kernel_rfl) ?cw3R237 ?ch3R237 ?ca3R237 (Eq.refl _) ?cH3R237
  case cw3R237 => (go_simp; done)
  case ch3R237 =>
    intro ds w' hS K hK
    have hc := (bcellB hS).1
    have hf := (bcellB hS).2
    have hz := hS.size
    try simp at hz
    go_simp
    try go_bits
    first
      | exact hK _ hS (Gr.refl _)
      | exact hK _ (by repeat (first | (with_reducible exact Below.refl _ _) | (with_reducible assumption) | ((with_reducible refine Below.setCell ?_ ?_ _); rotate_left; · (first | exact Nat.le_refl _ | (simp; done) | (simp; omega) | omega)) | ((with_reducible refine Below.alloc ?_ ?_ _); rotate_left; · (first | exact Nat.le_refl _ | (simp; done) | (simp; omega) | omega)) | (with_reducible apply Below.drew) | (with_reducible apply below_drewN') | (refine Below.trans ?_ (Below.mono (by assumption) (by first | exact Nat.le_refl _ | (simp; done) | (simp; omega) | omega))) | exact Below.refl _ _ | assumption)) (by repeat (first | (with_reducible exact Below.refl _ _) | (with_reducible assumption) | ((with_reducible refine Below.setCell ?_ ?_ _); rotate_left; · (first | exact Nat.le_refl _ | (simp; done) | (simp; omega) | omega)) | ((with_reducible refine Below.alloc ?_ ?_ _); rotate_left; · (first | exact Nat.le_refl _ | (simp; done) | (simp; omega) | omega)) | (with_reducible apply Below.drew) | (with_reducible apply below_drewN') | (refine Below.trans ?_ (Below.mono (by assumption) (by first | exact Nat.le_refl _ | (simp; done) | (simp; omega) | omega))) | exact Below.refl _ _ | assumption))
  case ca3R237 => (first | (simp [Act.put]; done) | (simp [Act.put, *]; done))
  try dsimp only
  refine wpW_det (t' := ?ct4R237) 4 (by rfl) (by kernel_rfl) (NQ_free _) (by kernel_rfl) ?cw4R237 ?ch4R237 ?ca4R237 (Eq.refl _) ?cH4R237
  case cw4R237 => (go_simp; done)
  case ch4R237 =>
    intro ds w' hS K hK
    have hc := (bcellB hS).1
    have hf := (bcellB hS).2
    have hz := hS.size
    try simp at hz
    go_simp
    try go_bits
    first
      | exact hK _ hS (Gr.refl _)
      | exact hK _ (by repeat (first | (with_reducible exact Below.refl _ _) | (with_reducible assumption) | ((with_reducible refine Below.setCell ?_ ?_ _); rotate_left; · (first | exact Nat.le_refl _ | (simp; done) | (simp; omega) | omega)) | ((with_reducible refine Below.alloc ?_ ?_ _); rotate_left; · (first | exact Nat.le_refl _ | (simp; done) | (simp; omega) | omega)) | (with_reducible apply Below.drew) | (with_reducible apply below_drewN') | (refine Below.trans ?_ (Below.mono (by assumption) (by first | exact Nat.le_refl _ | (simp; done) | (simp; omega) | omega))) | exact Below.refl _ _ | assumption)) (by repeat (first | (with_reducible exact Below.refl _ _) | (with_reducible assumption) | ((with_reducible refine Below.setCell ?_ ?_ _); rotate_left; · (first | exact Nat.le_refl _ | (simp; done) | (simp; omega) | omega)) | ((with_reducible refine Below.alloc ?_ ?_ _); rotate_left; · (first | exact Nat.le_refl _ | (simp; done) | (simp; omega) | omega)) | (with_reducible apply Below.drew) | (with_reducible apply below_drewN') | (refine Below.trans ?_ (Below.mono (by assumption) (by first | exact Nat.le_refl _ | (simp; done) | (simp; omega) | omega))) | exact Below.refl _ _ | assumption))
  case ca4R237 => (first | (simp [Act.put]; done) | (simp [Act.put, *]; done))
  try dsimp only
  refine wpW_det (t' := ?ct6R237) 6 (by rfl) (by kernel_rfl) (NQ_free _) (by kernel_rfl) ?cw6R237 ?ch6R237 ?ca6R237 (Eq.refl _) ?cH6R237
  case cw6R237 => (go_simp; done)
  case ch6R237 =>
    intro ds w' hS K hK
    have hc := (bcellB hS).1
    have hf := (bcellB hS).2
    have hz := hS.size
    try simp at hz
    go_simp
    try go_bits
    first
      | exact hK _ hS (Gr.refl _)
      | exact hK _ (by repeat (first | (with_reducible exact Below.refl _ _) | (with_reducible assumption) | ((with_reducible refine Below.setCell ?_ ?_ _); rotate_left; · (first | exact Nat.le_refl _ | (simp; done) | (simp; omega) | omega)) | ((with_reducible refine Below.alloc ?_ ?_ _); rotate_left; · (first | exact Nat.le_refl _ | (simp; done) | (simp; omega) | omega)) | (with_reducible apply Below.drew) | (with_reducible apply below_drewN') | (refine Below.trans ?_ (Below.mono (by assumption) (by first | exact Nat.le_refl _ | (simp; done) | (simp; omega) | omega))) | exact Below.refl _ _ | assumption)) (by repeat (first | (with_reducible exact Below.refl _ _) | (with_reducible assumption) | ((with_reducible refine Below.setCell ?_ ?_ _); rotate_left; · (first | exact Nat.le_refl _ | (simp; done) | (simp; omega) | omega)) | ((with_reducible refine Below.alloc ?_ ?_ _); rotate_left; · (first | exact Nat.le_refl _ | (simp; done) | (simp; omega) | omega)) | (with_reducible apply Below.drew) | (with_reducible apply below_drewN') | (refine Below.trans ?_ (Below.mono (by assumption) (by first | exact Nat.le_refl _ | (simp; done) | (simp; omega) | omega))) | exact Below.refl _ _ | assumption))
  case ca6R237 => (first | (simp [Act.put]; done) | (simp [Act.put, *]; done))
  try dsimp only
  refine wpW_det (t' := ?ct7R237) 7 (by rfl) (by kernel_rfl) (NQ_free _) (by kernel_rfl) ?cw7R237 ?ch7R237 ?ca7R237 (Eq.refl _) ?cH7R237
  case cw7R237 => (go_simp; done)
  case ch7R237 =>
    intro ds w' hS K hK
    have hc := (bcellB hS).1
    have hf := (bcellB hS).2
    have hz := hS.size
    try simp at hz
    go_simp
    try go_bits
    first
      | exact hK _ hS (Gr.refl _)
      | exact hK _ (by repeat (first | (with_reducible exact Below.refl _ _) | (with_reducible assumption) | ((with_reducible refine Below.setCell ?_ ?_ _); rotate_left; · (first | exact Nat.le_refl _ | (simp; done) | (simp; omega) | omega)) | ((with_reducible refine Below.alloc ?_ ?_ _); rotate_left; · (first | exact Nat.le_refl _ | (simp; done) | (simp; omega) | omega)) | (with_reducible apply Below.drew) | (with_reducible apply below_drewN') | (refine Below.trans ?_ (Below.mono (by assumption) (by first | exact Nat.le_refl _ | (simp; done) | (simp; omega) | omega))) | exact Below.refl _ _ | assumption)) (by repeat (first | (with_reducible exact Below.refl _ _) | (with_reducible assumption) | ((with_reducible refine Below.setCell ?_ ?_ _); rotate_left; · (first | exact Nat.le_refl _ | (simp; done) | (simp; omega) | omega)) | ((with_reducible refine Below.alloc ?_ ?_ _); rotate_left; · (first | exact Nat.le_refl _ | (simp; done) | (simp; omega) | omega)) | (with_reducible apply Below.drew) | (with_reducible apply below_drewN') | (refine Below.trans ?_ (Below.mono (by assumption) (by first | exact Nat.le_refl _ | (simp; done) | (simp; omega) | omega))) | exact Below.refl _ _ | assumption))
  case ca7R237 => (first | (simp [Act.put]; done) | (simp [Act.put, *]; done))
  try dsimp only
  refine wpW_branch [2] (by kernel_rfl) (by simp) ?_
  intro w1 hg1 hS1
  have hV1 := hV1.trans (hg1.mono (Below.size hV1))
  have b := b.gr hg1
  have M0 := LbM.gr M0 hg1
  try have c0 := (hg1.cell (p := ⟨g, 0, none⟩) hgl).trans c0
  try have hgl := Nat.lt_of_lt_of_le hgl (Below.size hg1)
  try have M := LbM.gr M hg1
  have zz := blk5c b
  obtain ⟨z0, z1, z2, z3, z4, zf⟩ := zz
  have lq := b.lt
  refine each_cons ?_ (each_nil)
  · refine wpOp_go (by rfl) (Eq.refl _) (by go_simp; done) ?_
    intro K hK
    go_simp
    try simp only [Act.put]
    have bg := Blk.new w1 3 #[.int .i64 (-1)]
    have c0 := bg.cell 0
    have hgl := bg.lt
    obtain ⟨g, hge⟩ : ∃ g, w1.heap.size = g := ⟨_, rfl⟩
    have hgA : Gr w1 (w1.alloc (.cells #[.int .i64 (-1)] 3)) := (Below.refl _ _).alloc (Nat.le_refl _) _
    have hvz := Below.size hV1
    have hV1 := hV1.trans (hgA.mono (Below.size hV1))
    have b := b.gr hgA
    have M0 := LbM.gr M0 hgA
    rw [hge] at c0 hgl ⊢
    refine hK _ _ (hS1.alloc hvz _) ?_
    clear hK K hgA bg hge hvz
    refine wpW_branch [5] (by kernel_rfl) (by simp) ?_
    intro w2 hg2 hS2
    have hV1 := hV1.trans (hg2.mono (Below.size hV1))
    have b := b.gr hg2
    have M0 := LbM.gr M0 hg2
    try have c0 := (hg2.cell (p := ⟨g, 0, none⟩) hgl).trans c0
    try have hgl := Nat.lt_of_lt_of_le hgl (Below.size hg2)
    try have M := LbM.gr M hg2
    have zz := blk5c b
    obtain ⟨z0, z1, z2, z3, z4, zf⟩ := zz
    have lq := b.lt
    refine each_cons ?_ (each_nil)
    · refine wpOp_go (by rfl) (Eq.refl _) (by go_simp; done) ?_
      intro K hK
      go_simp
      try simp only [Act.put]
      refine (repeat_any n hn g _ c0 hgl).mono ?_
      rintro e w8 ⟨p, rfl, M1⟩
      have hg8 : Gr w2 w8 := M1.below
      have hvz := Below.size hV1
      have M : LbM V p n (List.replicate n (-1)) w8 := ⟨own_lower M1.own (Below.size hV1), hV1.trans (hg8.mono (Below.size hV1))⟩
      have hpp : p0 ≠ p := fun e => by have := M1.low; have := M0.lt; omega
      have hV1 := hV1.trans (hg8.mono (Below.size hV1))
      have b := b.gr hg8
      have M0 := LbM.gr M0 hg8
      refine hK _ _ (hS2.trans (hg8.mono hvz)) ?_
      clear hK K c0 hgl M1 hg8 hvz
      refine wpW_branch [8] (by kernel_rfl) (by simp) ?_
      intro w3 hg3 hS3
      have hV1 := hV1.trans (hg3.mono (Below.size hV1))
      have b := b.gr hg3
      have M0 := LbM.gr M0 hg3
      try have c0 := (hg3.cell (p := ⟨g, 0, none⟩) hgl).trans c0
      try have hgl := Nat.lt_of_lt_of_le hgl (Below.size hg3)
      try have M := LbM.gr M hg3
      have zz := blk5c b
      obtain ⟨z0, z1, z2, z3, z4, zf⟩ := zz
      have lq := b.lt
      refine each_cons ?_ (each_nil)
      · refine wpOp_go (by rfl) (Eq.refl _) (by go_simp; done) ?_
        intro K hK
        go_simp
        try simp only [Act.put]
        refine hK _ _ hS3 ?_
        clear hK K
        refine wpW_branch [9] (by kernel_rfl) (by simp) ?_
        intro w4 hg4 hS4
        have hV1 := hV1.trans (hg4.mono (Below.size hV1))
        have b := b.gr hg4
        have M0 := LbM.gr M0 hg4
        try have c0 := (hg4.cell (p := ⟨g, 0, none⟩) hgl).trans c0
        try have hgl := Nat.lt_of_lt_of_le hgl (Below.size hg4)
        try have M := LbM.gr M hg4
        have zz := blk5c b
        obtain ⟨z0, z1, z2, z3, z4, zf⟩ := zz
        have lq := b.lt
        refine each_cons ?_ (each_nil)
        · refine wpOp_go (by rfl) (Eq.refl _) (by go_simp; done) ?_
          intro K hK
          go_simp
          try simp only [Act.put]
          have hqp : p ≠ q := fun e => own_blk_ne M.own b (by decide) (by rw [← e]; rfl)
          have b2 := b.set_ 4 (.slice (some ⟨p, 0, none⟩) n n)
          have M := M.far (i := 4) (u := .slice (some ⟨p, 0, none⟩) n n) hqp hq
          have hq0 : p0 ≠ q := fun e => own_blk_ne M0.own b (by decide) (by rw [← e]; rfl)
          have M0 := M0.far (i := 4) (u := .slice (some ⟨p, 0, none⟩) n n) hq0 hq
          refine hK _ _ (hS4.setCell hq _) ?_
          clear hK K z0 z1 z2 z3 z4 zf lq
          refine wpW_end (by kernel_rfl) ?_
          intro we hg hS
          unfold NQ
          dsimp only
          exact H.out _ _ _ _ _ _ _ _ _ p we (b2.gr hg) (LbM.gr M hg) (LbM.gr M0 hg) hpp

def MaK (V : World) (q : Nat) (a0 a1 : Value) (n0 n1 : Nat) (slack : Int) : Nat → World → Prop
  | 0, W => Blk W q 200 #[a0, a1, .int .i64 slack, .slice none 0 0, .slice none 0 0] ∧ Below V.heap.size V W
  | 1, W => ∃ p0, Blk W q 200 #[a0, a1, .int .i64 slack, .slice (some ⟨p0, 0, none⟩) n0 n0, .slice none 0 0] ∧ LbM V p0 n0 (List.replicate n0 (-1)) W
  | _ + 2, W => ∃ p0 p1, MaM V q p0 p1 a0 a1 n0 n1 slack (List.replicate n0 (-1)) (List.replicate n1 (-1)) W

set_option maxRecDepth 100000 in
set_option maxHeartbeats 4000000 in
theorem openLists_bad (l0 l1 : List Mk) (A0 A1 : Option Addr) (c0 c1 B : Nat) (slack : Int) (w : World) (h0 : MkOk l0 A0 B w) (h1 : MkOk l1 A1 B w) (hc0 : l0.length ≤ c0) (hc1 : l1.length ≤ c1) (hB : B ≤ w.heap.size) (he : openE l0 l1 slack ≠ 0) :
    Calls Tryz.prog 132 #[.agg #[.slice A0 l0.length c0, .slice A1 l1.length c1], .int .i64 slack] w fun e w' => e = .returned (.tuple #[.pointer none, .int .i64 (openE l0 l1 slack)]) ∧ Below w.heap.size w w' := by
  obtain ⟨E, hE⟩ : ∃ E, openE l0 l1 slack = E := ⟨_, rfl⟩
  have HP : Hid (firstE [(marksE l0).2, (marksE l1).2, slackE slack] = E) := Lib.hid hE
  rw [hE] at he ⊢
  clear hE
  have b2 := Blk.new w 124 #[.slice A0 l0.length c0, .slice A1 l1.length c1]
  have hBB : Below w.heap.size w (w.alloc (.cells #[.slice A0 l0.length c0, .slice A1 l1.length c1] 124)) := (by repeat (first | (with_reducible exact Below.refl _ _) | (with_reducible assumption) | ((with_reducible refine Below.setCell ?_ ?_ _); rotate_left; · (first | exact Nat.le_refl _ | (simp; done) | (simp; omega) | omega)) | ((with_reducible refine Below.alloc ?_ ?_ _); rotate_left; · (first | exact Nat.le_refl _ | (simp; done) | (simp; omega) | omega)) | (with_reducible apply Below.drew) | (with_reducible apply below_drewN') | (refine Below.trans ?_ (Below.mono (by assumption) (by first | exact Nat.le_refl _ | (simp; done) | (simp; omega) | omega))) | exact Below.refl _ _ | assumption))
  go_enter Tryz.func132, Tryz.ntmps132
  go_wp2_with fail
  obtain ⟨W, hW⟩ : ∃ W, w.alloc (.cells #[.slice A0 l0.length c0, .slice A1 l1.length c1] 124) = W := ⟨_, rfl⟩
  rw [hW] at b2 hBB ⊢
  clear hW
  have hzW := Below.size hBB
  have h0W := Lib.hid (h0.below hBB hB)
  have h1W := Lib.hid (h1.below hBB hB)
  have l_b2 := b2.lt
  obtain ⟨d0, d1, f2⟩ := blk2c b2
  refine wp_region_b 8 (by kernel_rfl) (by kernel_rfl) ?_; simp only [List.take, List.drop]
  repeat (first
    | (apply StepsD.run
       · go_simp
         done
       · intro w' hS K hK
         have hc := (bcell hS).1
         have hf := (bcell hS).2
         have hz := hS.size
         try simp at hz
         go_simp
         try go_bits
         first
           | exact hK _ hS
           | (go_at_call 99; (with_reducible refine (listErr_any l0 A0 c0 B _ (h0W.out.below hS (by omega)) hc0 (by omega) |>.mono ?_)); rintro e w1 ⟨rfl, hB1⟩; obtain ⟨hc1, hf1⟩ := bcell hB1; have hz1 := hB1.size; (try simp at hz1); exact hK _ (Below.trans hS (Below.mono hB1 (by first | exact Nat.le_refl _ | (simp; done) | (simp; omega) | omega))))
           | (go_at_call 99; (with_reducible refine (listErr_any l1 A1 c1 B _ (h1W.out.below hS (by omega)) hc1 (by omega) |>.mono ?_)); rintro e w1 ⟨rfl, hB1⟩; obtain ⟨hc1, hf1⟩ := bcell hB1; have hz1 := hB1.size; (try simp at hz1); exact hK _ (Below.trans hS (Below.mono hB1 (by first | exact Nat.le_refl _ | (simp; done) | (simp; omega) | omega))))
           | (go_at_call 126; (with_reducible refine (slackErr_any slack _).mono ?_); rintro e w1 ⟨rfl, rfl⟩; exact hK _ hS)
           | exact hK _ (by repeat (first | (with_reducible exact Below.refl _ _) | (with_reducible assumption) | ((with_reducible refine Below.setCell ?_ ?_ _); rotate_left; · (first | exact Nat.le_refl _ | (simp; done) | (simp; omega) | omega)) | ((with_reducible refine Below.alloc ?_ ?_ _); rotate_left; · (first | exact Nat.le_refl _ | (simp; done) | (simp; omega) | omega)) | (with_reducible apply Below.drew) | (with_reducible apply below_drewN') | (refine Below.trans ?_ (Below.mono (by assumption) (by first | exact Nat.le_refl _ | (simp; done) | (simp; omega) | omega))) | exact Below.refl _ _ | assumption))
       · simp [Act.put]
         done)
    | (apply StepsD.pass
       · go_simp
         done
       · simp only [Act.put, List.setIfInBounds_toArray, List.set_cons_succ, List.set_cons_zero]
         rfl))
  refine StepsD.done ?_
  intro w1 hS
  replace b2 := b2.gr hS
  replace hBB := hBB.trans (Below.mono hS (Below.size hBB))
  clear hS
  clear l_b2 d0 d1 f2
  have l_b2 := b2.lt
  obtain ⟨d0, d1, f2⟩ := blk2c b2
  go_wp2_with fail
  refine (first3_any _ _ _ _ _).mono ?_
  rw [HP.out]
  rintro e wc1 ⟨rfl, hBc1⟩
  replace b2 := b2.gr hBc1
  replace hBB := hBB.trans (Below.mono hBc1 (Below.size hBB))
  clear hBc1
  clear l_b2 d0 d1 f2
  have l_b2 := b2.lt
  obtain ⟨d0, d1, f2⟩ := blk2c b2
  have h0' : (E != 0) = true := by simpa using he
  go_wp2
  go_ret2
  exact ⟨rfl, hBB⟩

set_option maxRecDepth 100000 in
set_option maxHeartbeats 4000000 in
theorem openLists_ok (l0 l1 : List Mk) (A0 A1 : Option Addr) (c0 c1 B : Nat) (slack : Int) (w : World) (h0 : MkOk l0 A0 B w) (h1 : MkOk l1 A1 B w) (hc0 : l0.length ≤ c0) (hc1 : l1.length ≤ c1) (hB : B ≤ w.heap.size) (hn0 : l0.length ≤ 1000) (hn1 : l1.length ≤ 1000) (he : openE l0 l1 slack = 0) :
    Calls Tryz.prog 132 #[.agg #[.slice A0 l0.length c0, .slice A1 l1.length c1], .int .i64 slack] w fun e w' => ∃ q p0 p1, e = .returned (.tuple #[.pointer (some ⟨q, 0, none⟩), .int .i64 0]) ∧ MaM w q p0 p1 (.slice A0 l0.length c0) (.slice A1 l1.length c1) l0.length l1.length slack (List.replicate l0.length (-1)) (List.replicate l1.length (-1)) w' := by
  obtain ⟨E, hE⟩ : ∃ E, openE l0 l1 slack = E := ⟨_, rfl⟩
  have HP : Hid (firstE [(marksE l0).2, (marksE l1).2, slackE slack] = E) := Lib.hid hE
  rw [hE] at he; subst he
  clear hE
  have b2 := Blk.new w 124 #[.slice A0 l0.length c0, .slice A1 l1.length c1]
  have hBB : Below w.heap.size w (w.alloc (.cells #[.slice A0 l0.length c0, .slice A1 l1.length c1] 124)) := (by repeat (first | (with_reducible exact Below.refl _ _) | (with_reducible assumption) | ((with_reducible refine Below.setCell ?_ ?_ _); rotate_left; · (first | exact Nat.le_refl _ | (simp; done) | (simp; omega) | omega)) | ((with_reducible refine Below.alloc ?_ ?_ _); rotate_left; · (first | exact Nat.le_refl _ | (simp; done) | (simp; omega) | omega)) | (with_reducible apply Below.drew) | (with_reducible apply below_drewN') | (refine Below.trans ?_ (Below.mono (by assumption) (by first | exact Nat.le_refl _ | (simp; done) | (simp; omega) | omega))) | exact Below.refl _ _ | assumption))
  go_enter Tryz.func132, Tryz.ntmps132
  go_wp2_with fail
  obtain ⟨W, hW⟩ : ∃ W, w.alloc (.cells #[.slice A0 l0.length c0, .slice A1 l1.length c1] 124) = W := ⟨_, rfl⟩
  rw [hW] at b2 hBB ⊢
  clear hW
  have hzW := Below.size hBB
  have h0W := Lib.hid (h0.below hBB hB)
  have h1W := Lib.hid (h1.below hBB hB)
  have l_b2 := b2.lt
  obtain ⟨d0, d1, f2⟩ := blk2c b2
  refine wp_region_b 8 (by kernel_rfl) (by kernel_rfl) ?_; simp only [List.take, List.drop]
  repeat (first
    | (apply StepsD.run
       · go_simp
         done
       · intro w' hS K hK
         have hc := (bcell hS).1
         have hf := (bcell hS).2
         have hz := hS.size
         try simp at hz
         go_simp
         try go_bits
         first
           | exact hK _ hS
           | (go_at_call 99; (with_reducible refine (listErr_any l0 A0 c0 B _ (h0W.out.below hS (by omega)) hc0 (by omega) |>.mono ?_)); rintro e w1 ⟨rfl, hB1⟩; obtain ⟨hc1, hf1⟩ := bcell hB1; have hz1 := hB1.size; (try simp at hz1); exact hK _ (Below.trans hS (Below.mono hB1 (by first | exact Nat.le_refl _ | (simp; done) | (simp; omega) | omega))))
           | (go_at_call 99; (with_reducible refine (listErr_any l1 A1 c1 B _ (h1W.out.below hS (by omega)) hc1 (by omega) |>.mono ?_)); rintro e w1 ⟨rfl, hB1⟩; obtain ⟨hc1, hf1⟩ := bcell hB1; have hz1 := hB1.size; (try simp at hz1); exact hK _ (Below.trans hS (Below.mono hB1 (by first | exact Nat.le_refl _ | (simp; done) | (simp; omega) | omega))))
           | (go_at_call 126; (with_reducible refine (slackErr_any slack _).mono ?_); rintro e w1 ⟨rfl, rfl⟩; exact hK _ hS)
           | exact hK _ (by repeat (first | (with_reducible exact Below.refl _ _) | (with_reducible assumption) | ((with_reducible refine Below.setCell ?_ ?_ _); rotate_left; · (first | exact Nat.le_refl _ | (simp; done) | (simp; omega) | omega)) | ((with_reducible refine Below.alloc ?_ ?_ _); rotate_left; · (first | exact Nat.le_refl _ | (simp; done) | (simp; omega) | omega)) | (with_reducible apply Below.drew) | (with_reducible apply below_drewN') | (refine Below.trans ?_ (Below.mono (by assumption) (by first | exact Nat.le_refl _ | (simp; done) | (simp; omega) | omega))) | exact Below.refl _ _ | assumption))
       · simp [Act.put]
         done)
    | (apply StepsD.pass
       · go_simp
         done
       · simp only [Act.put, List.setIfInBounds_toArray, List.set_cons_succ, List.set_cons_zero]
         rfl))
  refine StepsD.done ?_
  intro w1 hS
  replace b2 := b2.gr hS
  replace hBB := hBB.trans (Below.mono hS (Below.size hBB))
  clear hS
  clear l_b2 d0 d1 f2
  have l_b2 := b2.lt
  obtain ⟨d0, d1, f2⟩ := blk2c b2
  go_wp2_with fail
  refine (first3_any _ _ _ _ _).mono ?_
  rw [HP.out]
  rintro e wc2 ⟨rfl, hBc2⟩
  replace b2 := b2.gr hBc2
  replace hBB := hBB.trans (Below.mono hBc2 (Below.size hBB))
  clear hBc2
  clear l_b2 d0 d1 f2
  have l_b2 := b2.lt
  obtain ⟨d0, d1, f2⟩ := blk2c b2
  go_wp2_with fail
  have hix : ∀ (u v : Value) (W : World), (Instr.index 124 (.agg #[u, v]) (.int .i64 0)).run Tryz.prog W = .ok u W ∧ (Instr.index 124 (.agg #[u, v]) (.int .i64 1)).run Tryz.prog W = .ok v W := fun u v W => ⟨by kernel_rfl, by kernel_rfl⟩
  have bq := Blk.new wc2 200 #[.slice A0 l0.length c0, .slice A1 l1.length c1, .int .i64 slack, .slice none 0 0, .slice none 0 0]
  have hgA : Below wc2.heap.size wc2 (wc2.alloc (.cells #[.slice A0 l0.length c0, .slice A1 l1.length c1, .int .i64 slack, .slice none 0 0, .slice none 0 0] 200)) := (Below.refl _ _).alloc (Nat.le_refl _) _
  have hzq := Below.size hBB
  have hBQ := hBB.trans (hgA.mono hzq)
  obtain ⟨q, hq⟩ : ∃ q, wc2.heap.size = q := ⟨_, rfl⟩
  rw [hq] at bq hzq ⊢
  clear hgA hBB b2 d0 d1 f2 l_b2
  obtain ⟨W5, hW5⟩ : ∃ W5, wc2.alloc (.cells #[.slice A0 l0.length c0, .slice A1 l1.length c1, .int .i64 slack, .slice none 0 0, .slice none 0 0] 200) = W5 := ⟨_, rfl⟩
  rw [hW5] at bq hBQ ⊢
  clear hW5 hq
  obtain ⟨x0, hx0⟩ : ∃ x, x = (.slice A0 l0.length c0 : Value) := ⟨_, rfl⟩
  go_loopw [28] (fun s28 wr => ∃ k : Nat, k ≤ 2 ∧ s28 = .int .i64 k ∧ MaK w q (.slice A0 l0.length c0) (.slice A1 l1.length c1) l0.length l1.length slack k wr) (fun s28 _ => 2 - (intOf s28).toNat)
  case atStart => exact ⟨0, by omega, rfl, bq, hBQ⟩
  case round =>
    clear bq hBQ
    obtain ⟨k, hk, rfl, M⟩ := hrel
    rcases (by omega : k = 0 ∨ k = 1 ∨ k = 2) with rfl | rfl | rfl
    · obtain ⟨bq, hBQ⟩ := M
      have hi := (hix (.slice A0 l0.length c0) (.slice A1 l1.length c1) wr).1
      go_upto_region 8 with fail
      refine openReg8_0 hBQ hzq hn0 bq _ ?_
      intro t32 t33 t34 t35 t36 t37 t38 t39 t40 p w' b' M'
      try go_wp2
      exact ⟨⟨1, by omega, rfl, p, b', M'⟩, by simp [intOf]⟩
    · obtain ⟨p0, bq, M0⟩ := M
      have hi := (hix (.slice A0 l0.length c0) (.slice A1 l1.length c1) wr).2
      go_upto_region 8 with fail
      refine openReg8_1 M0.below hzq hn1 bq M0 _ ?_
      intro t32 t33 t34 t35 t36 t37 t38 t39 t40 p w' b' M' M0' hpp
      try go_wp2
      exact ⟨⟨2, by omega, rfl, p0, p, b', M0', M', hpp, hzq⟩, by simp [intOf]⟩
    · obtain ⟨p0, p1, M⟩ := M
      go_wp2
      go_ret2
      exact ⟨q, p0, p1, rfl, M⟩
end Go.Proofs.YtidgeagpgllkeaaGreat
