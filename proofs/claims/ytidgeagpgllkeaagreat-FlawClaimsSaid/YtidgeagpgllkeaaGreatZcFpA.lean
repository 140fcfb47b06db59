/- The labels of the reference's areas: what lies in memory. Contracts: math/bits.Mul, slices.Repeat of ints. -/
import Derived.Shelf.Bits.Mul64
import Derived.Shelf.Spec.SlicesInsert
import Derived.Test.YtidgeagpgllkeaaGreatZcFkB
namespace Go.Proofs.YtidgeagpgllkeaaGreat
open Go.RowKit

theorem intsC_set (F : List Int) (k : Nat) (x : Int) : intsC (F.set k x) = (intsC F).set k (.int .i64 x) := by simp [intsC, List.map_set]
theorem made_ints (n : Nat) : (madeCells (Value.int IntKind.i64 0).cells (n * 1)).toList = intsC (List.replicate n 0) := by
  rw [Nat.mul_one]
  show (madeCells #[Value.int IntKind.i64 0] n).toList = _
  rw [toList_madeCells_one]
  simp [intsC]

/-- Labels, in a row of the call's own. -/
structure LbM (V : World) (p N : Nat) (F : List Int) (W : World) : Prop where
  own : W.ownsRow V.heap.size 3 1 (.slice (some ⟨p, 0, none⟩) N N) N (intsC F)
  below : Below V.heap.size V W
section
variable {V W W' : World} {p N : Nat} {F : List Int}
theorem LbM.gr (h : LbM V p N F W) (hk : Gr W W') : LbM V p N F W' := ⟨own_below h.own hk, h.below.trans (Below.mono hk (Below.size h.below))⟩
theorem LbM.drew (h : LbM V p N F W) : LbM V p N F W.drew := ⟨h.own.drew, h.below.drew⟩
theorem LbM.len (h : LbM V p N F W) : F.length = N := by have := h.own.1; simp [intsC] at this; omega
theorem LbM.cell (h : LbM V p N F W) {k : Nat} {x : Int} (hk : F[k]? = some x) : W.cell? ⟨p, k, none⟩ = some (.int .i64 x) := by
  have := h.own.cells (g := p) rfl k (.int .i64 x) (by simp [intsC, hk])
  rwa [Addr.add_lit, Nat.zero_add] at this
theorem LbM.frozen (h : LbM V p N F W) (k : Nat) : W.frozen? ⟨p, k, none⟩ = false := h.own.frozenAt k
theorem LbM.lt (h : LbM V p N F W) : p < W.heap.size := (h.own.lt p rfl).2
theorem LbM.low (h : LbM V p N F W) : V.heap.size ≤ p := (h.own.lt p rfl).1
theorem LbM.put (h : LbM V p N F W) (k : Nat) (x : Int) : LbM V p N (F.set k x) (W.setCell ⟨p, k, none⟩ (.int .i64 x)) := by
  obtain ⟨r1, _⟩ := h.own.stored k (.int .i64 x)
  exact ⟨by rw [intsC_set]; exact r1, h.below.setCell h.low _⟩
end
end Go.Proofs.YtidgeagpgllkeaaGreat

namespace Go.Proofs.YtidgeagpgllkeaaGreat
open Go.RowKit

set_option maxHeartbeats 1000000 in
theorem bitsMul64_any (x y : Nat) (hx : x < 18446744073709551616) (hy : y < 18446744073709551616) (w : World) :
    Calls Tryz.prog 205 #[.int .u64 x, .int .u64 y] w fun e w' => e = .returned (.tuple #[.int .u64 ((x * y / 18446744073709551616 : Nat) : Int), .int .u64 ((x * y % 18446744073709551616 : Nat) : Int)]) ∧ w' = w := by
  obtain ⟨bd, bt, bw, hhi⟩ := Lib.mul64_hi x y hx hy
  have ba := Lib.half_mul_le (a := x / 4294967296) (b := y / 4294967296) (by omega) (by omega)
  have bb := Lib.half_mul_le (a := x / 4294967296) (b := y % 4294967296) (by omega) (by omega)
  have bc := Lib.half_mul_le (a := x % 4294967296) (b := y / 4294967296) (by omega) (by omega)
  have ba' : x / 4294967296 * (y / 4294967296) < 18446744073709551616 := by omega
  have bb' : x / 4294967296 * (y % 4294967296) < 18446744073709551616 := by omega
  have bc' : x % 4294967296 * (y / 4294967296) < 18446744073709551616 := by omega
  have bh1 : x / 4294967296 * (y / 4294967296) + (x / 4294967296 * (y % 4294967296) + x % 4294967296 * (y % 4294967296) / 4294967296) / 4294967296 < 18446744073709551616 := by omega
  have bh : x / 4294967296 * (y / 4294967296) + (x / 4294967296 * (y % 4294967296) + x % 4294967296 * (y % 4294967296) / 4294967296) / 4294967296 + ((x / 4294967296 * (y % 4294967296) + x % 4294967296 * (y % 4294967296) / 4294967296) % 4294967296 + x % 4294967296 * (y / 4294967296)) / 4294967296 < 18446744073709551616 := by omega
  go_enter Tryz.func205, Tryz.ntmps205
  go_wp2
  simp only [Mul64.maskN x hx, Mul64.maskN y hy, Mul64.divN, Mul64.mulN, Mul64.addN, Mul64.wrapN _ bd, Mul64.wrapN _ bb', Mul64.wrapN _ bt, Mul64.maskN _ bt, Mul64.wrapN _ bc', Mul64.wrapN _ bw, Mul64.wrapN _ ba', Mul64.wrapN _ bh1, Mul64.wrapN _ bh, Mul64.wrapM (x * y)]
  rw [hhi]
  go_ret2
  exact ⟨rfl, rfl⟩
set_option maxHeartbeats 1000000 in
theorem bitsMul_any (x y : Nat) (hx : x < 18446744073709551616) (hy : y < 18446744073709551616) (w : World) :
    Calls Tryz.prog 186 #[.int .u64 x, .int .u64 y] w fun e w' => e = .returned (.tuple #[.int .u64 ((x * y / 18446744073709551616 : Nat) : Int), .int .u64 ((x * y % 18446744073709551616 : Nat) : Int)]) ∧ w' = w := by
  go_enter Tryz.func186, Tryz.ntmps186
  go_wp2_with (go_at_call 205; refine (bitsMul64_any x y hx hy _).mono ?_; rintro e w' ⟨rfl, hw⟩; rw [hw])
  go_ret2
  exact ⟨rfl, rfl⟩
/-- Numbers written one behind the other. -/
def putsL : List Int → Nat → List Int → List Int
  | F, _, [] => F
  | F, o, x :: r => putsL (F.set o x) (o + 1) r
theorem puts_rep (a b : Int) : ∀ (c k m : Nat), c ≤ m → putsL (List.replicate k a ++ List.replicate m b) k (List.replicate c a) = List.replicate (k + c) a ++ List.replicate (m - c) b
  | 0, k, m, _ => rfl
  | c + 1, k, 0, h => by omega
  | c + 1, k, m + 1, h => by
    have e : (List.replicate k a ++ List.replicate (m + 1) b).set k a = List.replicate (k + 1) a ++ List.replicate m b := by
      rw [List.set_append_right _ _ (by simp), List.length_replicate, Nat.sub_self, List.replicate_succ (n := m), List.set_cons_zero, List.replicate_succ' (n := k), List.append_assoc, List.singleton_append]
    rw [List.replicate_succ]
    show putsL ((List.replicate k a ++ List.replicate (m + 1) b).set k a) (k + 1) (List.replicate c a) = _
    rw [e, puts_rep a b c (k + 1) m (by omega), show k + 1 + c = k + (c + 1) by omega, show m + 1 - (c + 1) = m - c by omega]
theorem LbM.puts {V : World} {p N : Nat} : ∀ (xs : List Int) (o : Nat) {F : List Int} {W : World}, LbM V p N F W → LbM V p N (putsL F o xs) (W.setCells p o (intsC xs))
  | [], _, _, _, h => h
  | x :: r, o, F, W, h => LbM.puts r (o + 1) (h.put o x)
theorem below_puts {B p : Nat} {V : World} (hp : B ≤ p) : ∀ (xs : List Value) (o : Nat) {W : World}, Below B V W → Below B V (W.setCells p o xs)
  | [], _, _, h => h
  | x :: r, o, W, h => below_puts hp r (o + 1) (h.setCell hp x)
theorem intsC_get {l : List Int} {j : Nat} {v : Value} (h : (intsC l)[j]? = some v) : ∃ x, l[j]? = some x ∧ v = .int .i64 x := by
  simp [intsC] at h
  obtain ⟨x, h1, h2⟩ := h
  exact ⟨x, h1, h2.symm⟩
theorem intsC_len (l : List Int) : (intsC l).length = l.length := by simp [intsC]
theorem intsC_one {l : List Int} : ∀ v ∈ intsC l, v.oneCell' = true := by
  intro v hv
  simp [intsC] at hv
  obtain ⟨x, _, rfl⟩ := hv
  rfl
theorem infoIntSize : (Tryz.prog.info? 3).map (·.size) = some 1 := by kernel_rfl

set_option maxRecDepth 100000 in
set_option maxHeartbeats 4000000 in
theorem repReg9 {V W : World} {p n k : Nat} (hn : n ≤ 1000) (hk : k < n) (hk1 : 1 ≤ k) (M : LbM V p n (List.replicate k (-1) ++ List.replicate (n - k) 0) W) {t0 t1 t2 t3 t4 t5 t6 t9 t10 t11 t12 t13 t14 t15 t16 t17 t18 t19 t20 t21 t22 t23 t24 t25 t26 t27 t28 t29 t30 t31 t32 t33 t34 t35 t36 t37 t38 t39 t40 t41 t42 t43 t44 t45 t46 t47 : Value} {ds : List Deferred} (Q : Exit → Act → World → Prop)
    (h : ∀ (t38 t39 t40 t41 t42 t43 t44 t45 t46 : Value) (w' : World), LbM V p n (List.replicate (k + Nat.min k (n - k)) (-1) ++ List.replicate (n - k - Nat.min k (n - k)) 0) w' → Q .normal ⟨#[t0, t1, t2, t3, t4, t5, t6, .slice (some ⟨p, 0, none⟩) n n, .int .i64 ((k + Nat.min k (n - k) : Nat) : Int), t9, t10, t11, t12, t13, t14, t15, t16, t17, t18, t19, t20, t21, t22, t23, t24, t25, t26, t27, t28, t29, t30, t31, t32, t33, t34, t35, t36, t37, t38, t39, t40, t41, t42, t43, t44, t45, t46, t47], ds⟩ w') :
    (regOf Tryz.f158 9).wp Tryz.prog Q ⟨#[t0, t1, t2, t3, t4, t5, t6, .slice (some ⟨p, 0, none⟩) n n, .int .i64 k, t9, t10, t11, t12, t13, t14, t15, t16, t17, t18, t19, t20, t21, t22, t23, t24, t25, t26, t27, t28, t29, t30, t31, t32, t33, t34, t35, t36, t37, t38, t39, t40, t41, t42, t43, t44, t45, t46, t47], ds⟩ W := by
  have H := Lib.hid h; clear h
  have M := M.drew
  have hnk : ¬ (n = k) := by omega
  have k0 : (0 : Int) ≤ (k : Int) := by omega
  have k1 : (k : Int) ≤ (n : Int) := by omega
  have k2 : ((k : Int)).toNat = k := by omega
  have hc : Nat.min k (n - k) ≤ n - k := Nat.min_le_right _ _
  have hc0 : Nat.min k (n - k) ≤ k := Nat.min_le_left _ _
  obtain ⟨c, hce⟩ : ∃ c, Nat.min k (n - k) = c := ⟨_, rfl⟩
  have HCE := Lib.hid hce
  rw [hce] at H hc hc0
  clear hce
  conv in (regOf _ _) => whnf
  refine wp_region_w (fun w' => Below V.heap.size _ w') (by kernel_rfl) (Below.refl _ _).drew ?_
  refine wpW_det (t' := ?ct0R129) 0 (by rfl) (by kernel_rfl) (NQ_free _) (by kernel_rfl) ?cw0R129 ?ch0R129 ?ca0R129 (Eq.refl _) ?cH0R129
  case cw0R129 => (go_simp; done)
  case ch0R129 =>
    intro ds w' hS K hK
    have hc := (bcellB hS).1
    have hf := (bcellB hS).2
    have hz := hS.size
    try simp at hz
    go_simp
    try go_bits
    first
      | exact hK _ hS (Gr.refl _)
      | exact hK _ (by repeat (first | (with_reducible exact Below.refl _ _) | (with_reducible assumption) | ((with_reducible refine Below.setCell ?_ ?_ _); rotate_left; · (first | exact Nat.le_refl _ | (simp; done) | (simp; omega) | omega)) | ((with_reducible refine Below.alloc ?_ ?_ _); rotate_left; · (first | exact Nat.le_refl _ | (simp; done) | (simp; omega) | omega)) | (with_reducible apply Below.drew) | (with_reducible apply below_drewN') | (refine Below.trans ?_ (Below.mono (by assumption) (by first | exact Nat.le_refl _ | (simp; done) | (simp; omega) | omega))) | exact Below.refl _ _ | assumption)) (by repeat (first | (with_reducible exact Below.refl _ _) | (with_reducible assumption) | ((with_reducible refine Below.setCell ?_ ?_ _); rotate_left; · (first | exact Nat.le_refl _ | (simp; done) | (simp; omega) | omega)) | ((with_reducible refine Below.alloc ?_ ?_ _); rotate_left; · (first | exact Nat.le_refl _ | (simp; done) | (simp; omega) | omega)) | (with_reducible apply Below.drew) | (with_reducible apply below_drewN') | (refine Below.trans ?_ (Below.mono (by assumption) (by first | exact Nat.le_refl _ | (simp; done) | (simp; omega) | omega))) | exact Below.refl _ _ | assumption))
  case ca0R129 => (first | (simp [Act.put]; done) | (simp [Act.put, *]; done))
  try dsimp only
  refine wpW_det (t' := ?ct1R129) 1 (by rfl) (by kernel_rfl) (NQ_free _) (by kernel_rfl) ?cw1R129 ?ch1R129 ?ca1R129 (Eq.refl _) ?cH1R129
  case cw1R129 => (go_simp; done)
  case ch1R129 =>
    intro ds w' hS K hK
    have hc := (bcellB hS).1
    have hf := (bcellB hS).2
    have hz := hS.size
    try simp at hz
    go_simp
    try go_bits
    first
      | exact hK _ hS (Gr.refl _)
      | exact hK _ (by repeat (first | (with_reducible exact Below.refl _ _) | (with_reducible assumption) | ((with_reducible refine Below.setCell ?_ ?_ _); rotate_left; · (first | exact Nat.le_refl _ | (simp; done) | (simp; omega) | omega)) | ((with_reducible refine Below.alloc ?_ ?_ _); rotate_left; · (first | exact Nat.le_refl _ | (simp; done) | (simp; omega) | omega)) | (with_reducible apply Below.drew) | (with_reducible apply below_drewN') | (refine Below.trans ?_ (Below.mono (by assumption) (by first | exact Nat.le_refl _ | (simp; done) | (simp; omega) | omega))) | exact Below.refl _ _ | assumption)) (by repeat (first | (with_reducible exact Below.refl _ _) | (with_reducible assumption) | ((with_reducible refine Below.setCell ?_ ?_ _); rotate_left; · (first | exact Nat.le_refl _ | (simp; done) | (simp; omega) | omega)) | ((with_reducible refine Below.alloc ?_ ?_ _); rotate_left; · (first | exact Nat.le_refl _ | (simp; done) | (simp; omega) | omega)) | (with_reducible apply Below.drew) | (with_reducible apply below_drewN') | (refine Below.trans ?_ (Below.mono (by assumption) (by first | exact Nat.le_refl _ | (simp; done) | (simp; omega) | omega))) | exact Below.refl _ _ | assumption))
  case ca1R129 => (first | (simp [Act.put]; done) | (simp [Act.put, *]; done))
  try dsimp only
  refine wpW_det (t' := ?ct2R129) 2 (by rfl) (by kernel_rfl) (NQ_free _) (by kernel_rfl) ?cw2R129 ?ch2R129 ?ca2R129 (Eq.refl _) ?cH2R129
  case cw2R129 => (go_simp; done)
  case ch2R129 =>
    intro ds w' hS K hK
    have hc := (bcellB hS).1
    have hf := (bcellB hS).2
    have hz := hS.size
    try simp at hz
    go_simp
    try go_bits
    first
      | exact hK _ hS (Gr.refl _)
      | exact hK _ (by repeat (first | (with_reducible exact Below.refl _ _) | (with_reducible assumption) | ((with_reducible refine Below.setCell ?_ ?_ _); rotate_left; · (first | exact Nat.le_refl _ | (simp; done) | (simp; omega) | omega)) | ((with_reducible refine Below.alloc ?_ ?_ _); rotate_left; · (first | exact Nat.le_refl _ | (simp; done) | (simp; omega) | omega)) | (with_reducible apply Below.drew) | (with_reducible apply below_drewN') | (refine Below.trans ?_ (Below.mono (by assumption) (by first | exact Nat.le_refl _ | (simp; done) | (simp; omega) | omega))) | exact Below.refl _ _ | assumption)) (by repeat (first | (with_reducible exact Below.refl _ _) | (with_reducible assumption) | ((with_reducible refine Below.setCell ?_ ?_ _); rotate_left; · (first | exact Nat.le_refl _ | (simp; done) | (simp; omega) | omega)) | ((with_reducible refine Below.alloc ?_ ?_ _); rotate_left; · (first | exact Nat.le_refl _ | (simp; done) | (simp; omega) | omega)) | (with_reducible apply Below.drew) | (with_reducible apply below_drewN') | (refine Below.trans ?_ (Below.mono (by assumption) (by first | exact Nat.le_refl _ | (simp; done) | (simp; omega) | omega))) | exact Below.refl _ _ | assumption))
  case ca2R129 => (first | (simp [Act.put]; done) | (simp [Act.put, *]; done))
  try dsimp only
  refine wpW_det (t' := ?ct3R129) 3 (by rfl) (by kernel_rfl) (NQ_free _) (by kernel_rfl) ?cw3R129 ?ch3R129 ?ca3R129 (Eq.refl _) ?cH3R129
  case cw3R129 => (go_simp; done)
  case ch3R129 =>
    intro ds w' hS K hK
    have hc := (bcellB hS).1
    have hf := (bcellB hS).2
    have hz := hS.size
    try simp at hz
    go_simp
    try go_bits
    first
      | exact hK _ hS (Gr.refl _)
      | exact hK _ (by repeat (first | (with_reducible exact Below.refl _ _) | (with_reducible assumption) | ((with_reducible refine Below.setCell ?_ ?_ _); rotate_left; · (first | exact Nat.le_refl _ | (simp; done) | (simp; omega) | omega)) | ((with_reducible refine Below.alloc ?_ ?_ _); rotate_left; · (first | exact Nat.le_refl _ | (simp; done) | (simp; omega) | omega)) | (with_reducible apply Below.drew) | (with_reducible apply below_drewN') | (refine Below.trans ?_ (Below.mono (by assumption) (by first | exact Nat.le_refl _ | (simp; done) | (simp; omega) | omega))) | exact Below.refl _ _ | assumption)) (by repeat (first | (with_reducible exact Below.refl _ _) | (with_reducible assumption) | ((with_reducible refine Below.setCell ?_ ?_ _); rotate_left; · (first | exact Nat.le_refl _ | (simp; done) | (simp; omega) | omega)) | ((with_reducible refine Below.alloc ?_ ?_ _); rotate_left; · (first | exact Nat.le_refl _ | (simp; done) | (simp; omega) | omega)) | (with_reducible apply Below.drew) | (with_reducible apply below_drewN') | (refine Below.trans ?_ (Below.mono (by assumption) (by first | exact Nat.le_refl _ | (simp; done) | (simp; omega) | omega))) | exact Below.refl _ _ | assumption))
  case ca3R129 => (first | (simp [Act.put]; done) | (simp [Act.put, *]; done))
  try dsimp only
  refine wpW_det (t' := ?ct4R129) 4 (by rfl) (by kernel_rfl) (NQ_free _) (by kernel_rfl) ?cw4R129 ?ch4R129 ?ca4R129 (Eq.refl _) ?cH4R129
  case cw4R129 => (go_simp; done)
  case ch4R129 =>
    intro ds w' hS K hK
    have hc := (bcellB hS).1
    have hf := (bcellB hS).2
    have hz := hS.size
    try simp at hz
    go_simp
    try go_bits
    first
      | exact hK _ hS (Gr.refl _)
      | exact hK _ (by repeat (first | (with_reducible exact Below.refl _ _) | (with_reducible assumption) | ((with_reducible refine Below.setCell ?_ ?_ _); rotate_left; · (first | exact Nat.le_refl _ | (simp; done) | (simp; omega) | omega)) | ((with_reducible refine Below.alloc ?_ ?_ _); rotate_left; · (first | exact Nat.le_refl _ | (simp; done) | (simp; omega) | omega)) | (with_reducible apply Below.drew) | (with_reducible apply below_drewN') | (refine Below.trans ?_ (Below.mono (by assumption) (by first | exact Nat.le_refl _ | (simp; done) | (simp; omega) | omega))) | exact Below.refl _ _ | assumption)) (by repeat (first | (with_reducible exact Below.refl _ _) | (with_reducible assumption) | ((with_reducible refine Below.setCell ?_ ?_ _); rotate_left; · (first | exact Nat.le_refl _ | (simp; done) | (simp; omega) | omega)) | ((with_reducible refine Below.alloc ?_ ?_ _); rotate_left; · (first | exact Nat.le_refl _ | (simp; done) | (simp; omega) | omega)) | (with_reducible apply Below.drew) | (with_reducible apply below_drewN') | (refine Below.trans ?_ (Below.mono (by assumption) (by first | exact Nat.le_refl _ | (simp; done) | (simp; omega) | omega))) | exact Below.refl _ _ | assumption))
  case ca4R129 => (first | (simp [Act.put]; done) | (simp [Act.put, *]; done))
  try dsimp only
  refine wpW_det (t' := ?ct5R129) 5 (by rfl) (by kernel_rfl) (NQ_free _) (by kernel_rfl) ?cw5R129 ?ch5R129 ?ca5R129 (Eq.refl _) ?cH5R129
  case cw5R129 => (go_simp; done)
  case ch5R129 =>
    intro ds w' hS K hK
    have hc := (bcellB hS).1
    have hf := (bcellB hS).2
    have hz := hS.size
    try simp at hz
    go_simp
    try go_bits
    first
      | exact hK _ hS (Gr.refl _)
      | exact hK _ (by repeat (first | (with_reducible exact Below.refl _ _) | (with_reducible assumption) | ((with_reducible refine Below.setCell ?_ ?_ _); rotate_left; · (first | exact Nat.le_refl _ | (simp; done) | (simp; omega) | omega)) | ((with_reducible refine Below.alloc ?_ ?_ _); rotate_left; · (first | exact Nat.le_refl _ | (simp; done) | (simp; omega) | omega)) | (with_reducible apply Below.drew) | (with_reducible apply below_drewN') | (refine Below.trans ?_ (Below.mono (by assumption) (by first | exact Nat.le_refl _ | (simp; done) | (simp; omega) | omega))) | exact Below.refl _ _ | assumption)) (by repeat (first | (with_reducible exact Below.refl _ _) | (with_reducible assumption) | ((with_reducible refine Below.setCell ?_ ?_ _); rotate_left; · (first | exact Nat.le_refl _ | (simp; done) | (simp; omega) | omega)) | ((with_reducible refine Below.alloc ?_ ?_ _); rotate_left; · (first | exact Nat.le_refl _ | (simp; done) | (simp; omega) | omega)) | (with_reducible apply Below.drew) | (with_reducible apply below_drewN') | (refine Below.trans ?_ (Below.mono (by assumption) (by first | exact Nat.le_refl _ | (simp; done) | (simp; omega) | omega))) | exact Below.refl _ _ | assumption))
  case ca5R129 => (first | (simp [Act.put]; done) | (simp [Act.put, *]; done))
  try dsimp only
  refine wpW_det (t' := ?ct6R129) 6 (by rfl) (by kernel_rfl) (NQ_free _) (by kernel_rfl) ?cw6R129 ?ch6R129 ?ca6R129 (Eq.refl _) ?cH6R129
  case cw6R129 => (go_simp; done)
  case ch6R129 =>
    intro ds w' hS K hK
    have hc := (bcellB hS).1
    have hf := (bcellB hS).2
    have hz := hS.size
    try simp at hz
    go_simp
    try go_bits
    first
      | exact hK _ hS (Gr.refl _)
      | exact hK _ (by repeat (first | (with_reducible exact Below.refl _ _) | (with_reducible assumption) | ((with_reducible refine Below.setCell ?_ ?_ _); rotate_left; · (first | exact Nat.le_refl _ | (simp; done) | (simp; omega) | omega)) | ((with_reducible refine Below.alloc ?_ ?_ _); rotate_left; · (first | exact Nat.le_refl _ | (simp; done) | (simp; omega) | omega)) | (with_reducible apply Below.drew) | (with_reducible apply below_drewN') | (refine Below.trans ?_ (Below.mono (by assumption) (by first | exact Nat.le_refl _ | (simp; done) | (simp; omega) | omega))) | exact Below.refl _ _ | assumption)) (by repeat (first | (with_reducible exact Below.refl _ _) | (with_reducible assumption) | ((with_reducible refine Below.setCell ?_ ?_ _); rotate_left; · (first | exact Nat.le_refl _ | (simp; done) | (simp; omega) | omega)) | ((with_reducible refine Below.alloc ?_ ?_ _); rotate_left; · (first | exact Nat.le_refl _ | (simp; done) | (simp; omega) | omega)) | (with_reducible apply Below.drew) | (with_reducible apply below_drewN') | (refine Below.trans ?_ (Below.mono (by assumption) (by first | exact Nat.le_refl _ | (simp; done) | (simp; omega) | omega))) | exact Below.refl _ _ | assumption))
  case ca6R129 => (first | (simp [Act.put]; done) | (simp [Act.put, *]; done))
  try dsimp only
  refine wpW_branch [7] (by kernel_rfl) (by simp) ?_
  intro w1 hg1 hS1
  have M := LbM.gr M hg1
  refine each_cons ?_ (each_nil)
  · refine wpOp_go (by rfl) (Eq.refl _) (by go_simp; done) ?_
    intro K hK
    have hrun := run_copy_cells (P := Tryz.prog) w1 37 37 3 3 p k (n - k) (n - k) ⟨p, 0, none⟩ k n (intsC (List.replicate c (-1))) Tryz.underlying37 infoIntSize (by rw [intsC_len, List.length_replicate, HCE.out]) (fun j v hj => by
        obtain ⟨x, h1, rfl⟩ := intsC_get hj
        rw [List.getElem?_replicate] at h1
        split at h1
        · rename_i hjc
          obtain rfl : -1 = x := by simpa using h1
          have := M.cell (k := j) (x := -1) (by rw [List.getElem?_append_left (by simp; omega), List.getElem?_replicate, if_pos (by omega)])
          rw [Addr.add_lit, Nat.zero_add]; exact this
        · cases h1) (fun j hj => by
        rw [intsC_len, List.length_replicate] at hj
        have := M.cell (k := k + j) (x := 0) (by rw [List.getElem?_append_right (by simp), List.getElem?_replicate]; simp; omega)
        rw [this]; rfl) (fun j _ => M.frozen (k + j)) intsC_one
    rw [intsC_len, List.length_replicate] at hrun
    refine wp_copy_runI _ (.tmp 41) (.tmp 44) 37 37 rfl (.slice (some ⟨p, k, none⟩) (n - k) (n - k)) (.slice (some ⟨p, 0, none⟩) k n) ?hd ?hs (v' := .int .i64 c) (w' := w1.setCells p k (intsC (List.replicate c (-1)))) ?hr ?_
    case hd => first | rfl | skip
    case hs => first | rfl | skip
    case hr => exact hrun
    try simp only [Act.put]
    try simp only [List.setIfInBounds_toArray]
    have M2 := M.puts (List.replicate c (-1)) k
    rw [puts_rep _ _ _ _ _ hc] at M2
    refine hK _ _ (below_puts M.low _ _ hS1) ?_
    clear hK K M hrun
    have M := M2
    refine wpW_det (t' := ?ct8R130) 8 (by rfl) (by kernel_rfl) (NQ_free _) (by kernel_rfl) ?cw8R130 ?ch8R130 ?ca8R130 (Eq.refl _) ?cH8R130
    case cw8R130 => (go_simp; done)
    case ch8R130 =>
      intro ds w' hS K hK
      have hc := (bcellB hS).1
      have hf := (bcellB hS).2
      have hz := hS.size
      try simp at hz
      go_simp
      try go_bits
      first
        | exact hK _ hS (Gr.refl _)
        | exact hK _ (by repeat (first | (with_reducible exact Below.refl _ _) | (with_reducible assumption) | ((with_reducible refine Below.setCell ?_ ?_ _); rotate_left; · (first | exact Nat.le_refl _ | (simp; done) | (simp; omega) | omega)) | ((with_reducible refine Below.alloc ?_ ?_ _); rotate_left; · (first | exact Nat.le_refl _ | (simp; done) | (simp; omega) | omega)) | (with_reducible apply Below.drew) | (with_reducible apply below_drewN') | (refine Below.trans ?_ (Below.mono (by assumption) (by first | exact Nat.le_refl _ | (simp; done) | (simp; omega) | omega))) | exact Below.refl _ _ | assumption)) (by repeat (first | (with_reducible exact Below.refl _ _) | (with_reducible assumption) | ((with_reducible refine Below.setCell ?_ ?_ _); rotate_left; · (first | exact Nat.le_refl _ | (simp; done) | (simp; omega) | omega)) | ((with_reducible refine Below.alloc ?_ ?_ _); rotate_left; · (first | exact Nat.le_refl _ | (simp; done) | (simp; omega) | omega)) | (with_reducible apply Below.drew) | (with_reducible apply below_drewN') | (refine Below.trans ?_ (Below.mono (by assumption) (by first | exact Nat.le_refl _ | (simp; done) | (simp; omega) | omega))) | exact Below.refl _ _ | assumption))
    case ca8R130 => (first | (simp [Act.put]; done) | (simp [Act.put, *]; done))
    try dsimp only
    refine wpW_det (t' := ?ct9R130) 9 (by rfl) (by kernel_rfl) (NQ_free _) (by kernel_rfl) ?cw9R130 ?ch9R130 ?ca9R130 (Eq.refl _) ?cH9R130
    case cw9R130 => (go_simp; done)
    case ch9R130 =>
      intro ds w' hS K hK
      have hc := (bcellB hS).1
      have hf := (bcellB hS).2
      have hz := hS.size
      try simp at hz
      go_simp
      try go_bits
      first
        | exact hK _ hS (Gr.refl _)
        | exact hK _ (by repeat (first | (with_reducible exact Below.refl _ _) | (with_reducible assumption) | ((with_reducible refine Below.setCell ?_ ?_ _); rotate_left; · (first | exact Nat.le_refl _ | (simp; done) | (simp; omega) | omega)) | ((with_reducible refine Below.alloc ?_ ?_ _); rotate_left; · (first | exact Nat.le_refl _ | (simp; done) | (simp; omega) | omega)) | (with_reducible apply Below.drew) | (with_reducible apply below_drewN') | (refine Below.trans ?_ (Below.mono (by assumption) (by first | exact Nat.le_refl _ | (simp; done) | (simp; omega) | omega))) | exact Below.refl _ _ | assumption)) (by repeat (first | (with_reducible exact Below.refl _ _) | (with_reducible assumption) | ((with_reducible refine Below.setCell ?_ ?_ _); rotate_left; · (first | exact Nat.le_refl _ | (simp; done) | (simp; omega) | omega)) | ((with_reducible refine Below.alloc ?_ ?_ _); rotate_left; · (first | exact Nat.le_refl _ | (simp; done) | (simp; omega) | omega)) | (with_reducible apply Below.drew) | (with_reducible apply below_drewN') | (refine Below.trans ?_ (Below.mono (by assumption) (by first | exact Nat.le_refl _ | (simp; done) | (simp; omega) | omega))) | exact Below.refl _ _ | assumption))
    case ca9R130 => (first | (simp [Act.put]; done) | (simp [Act.put, *]; done))
    try dsimp only
    refine wpW_end (by kernel_rfl) ?_
    intro we hg hS
    unfold NQ
    dsimp only
    exact H.out _ _ _ _ _ _ _ _ _ we (LbM.gr M hg)

set_option maxRecDepth 100000 in
set_option maxHeartbeats 4000000 in
theorem repLoop {V wr0 : World} {p n k : Nat} (hn : n ≤ 1000) (hk : k ≤ n) (hk1 : 1 ≤ k ∨ n = 0) (M : LbM V p n (List.replicate k (-1) ++ List.replicate (n - k) 0) wr0) {t0 t1 t2 t3 t4 t5 t6 t9 t10 t11 t12 t13 t14 t15 t16 t17 t18 t19 t20 t21 t22 t23 t24 t25 t26 t27 t28 t29 t30 t31 t32 t33 t34 t35 t36 t37 t38 t39 t40 t41 t42 t43 t44 t45 t46 t47 : Value} {ds : List Deferred} (Q' : Exit → Act → World → Prop)
    (h : ∀ (t8 t34 t35 t36 t37 t38 t39 t40 t41 t42 t43 t44 t45 t46 : Value) (w' : World), LbM V p n (List.replicate n (-1)) w' → Q' (.exit 0) ⟨#[t0, t1, t2, t3, t4, t5, t6, .slice (some ⟨p, 0, none⟩) n n, t8, t9, t10, t11, t12, t13, t14, t15, t16, t17, t18, t19, t20, t21, t22, t23, t24, t25, t26, t27, t28, t29, t30, t31, t32, t33, t34, t35, t36, t37, t38, t39, t40, t41, t42, t43, t44, t45, t46, t47], ds⟩ w') :
    (Code.loop (bodyOf Tryz.f158 0)).wp Tryz.prog Q' ⟨#[t0, t1, t2, t3, t4, t5, t6, .slice (some ⟨p, 0, none⟩) n n, .int .i64 k, t9, t10, t11, t12, t13, t14, t15, t16, t17, t18, t19, t20, t21, t22, t23, t24, t25, t26, t27, t28, t29, t30, t31, t32, t33, t34, t35, t36, t37, t38, t39, t40, t41, t42, t43, t44, t45, t46, t47], ds⟩ wr0 := by
  have H := Lib.hid h; clear h
  conv in (bodyOf _ _) => whnf
  dsimp only
  go_loopw [8] (fun s8 wr => ∃ k : Nat, k ≤ n ∧ (1 ≤ k ∨ n = 0) ∧ s8 = .int .i64 k ∧ LbM V p n (List.replicate k (-1) ++ List.replicate (n - k) 0) wr) (fun s8 _ => n - (intOf s8).toNat)
  case atStart => exact ⟨k, hk, hk1, rfl, M⟩
  case round =>
    clear M hk hk1
    obtain ⟨k, hk, hk1, rfl, M⟩ := hrel
    by_cases hlt : k < n
    · have i1 : ((k : Int) < (n : Int)) := by omega
      go_upto_region 9 with fail
      refine repReg9 hn hlt (by omega) M _ ?_
      intro t38 t39 t40 t41 t42 t43 t44 t45 t46 w' M2
      have hc : Nat.min k (n - k) ≤ n - k := Nat.min_le_right _ _
      have hc0 : 1 ≤ Nat.min k (n - k) := Nat.le_min.2 ⟨by omega, by omega⟩
      obtain ⟨c, hce⟩ : ∃ c, Nat.min k (n - k) = c := ⟨_, rfl⟩
      rw [hce] at M2 hc hc0
      try rw [hce]
      try go_wp2
      refine ⟨⟨k + c, by omega, .inl (by omega), rfl, ?_⟩, by simp [intOf]; omega⟩
      rw [show n - (k + c) = n - k - c by omega]; exact M2
    · obtain rfl : k = n := by omega
      go_wp2
      refine H.out _ _ _ _ _ _ _ _ _ _ _ _ _ _ wr ?_
      rw [Nat.sub_self, List.replicate_zero, List.append_nil] at M
      exact M
theorem bitsMul1 (n : Nat) (hn : n ≤ 1000) (w : World) : Calls Tryz.prog 186 #[.int .u64 1, .int .u64 n] w fun e w' => e = .returned (.tuple #[.int .u64 0, .int .u64 n]) ∧ w' = w := by
  refine (bitsMul_any 1 n (by omega) (by omega) w).mono ?_
  rintro e w' ⟨rfl, h⟩
  refine ⟨?_, h⟩
  rw [Nat.one_mul, Nat.div_eq_of_lt (by omega), Nat.mod_eq_of_lt (by omega)]
  rfl

set_option maxRecDepth 100000 in
set_option maxHeartbeats 4000000 in
theorem repeat_any (n : Nat) (hn : n ≤ 1000) (g : Nat) (w : World) (c0 : w.cell? ⟨g, 0, none⟩ = some (.int .i64 (-1))) (hg : g < w.heap.size) :
    Calls Tryz.prog 158 #[.slice (some ⟨g, 0, none⟩) 1 1, .int .i64 n] w fun e w' => ∃ p, e = .returned (.slice (some ⟨p, 0, none⟩) n n) ∧ LbM w p n (List.replicate n (-1)) w' := by
  obtain ⟨i0, hi, hz0, hz1, hz2⟩ := info_parts infoInt
  have m0 : ¬ ((n : Int) < 0) := by omega
  have m1 : ¬ ((9223372036854775807 : Int) < (n : Int)) := by omega
  have m2 : (n : Int) ≤ 1000 := by omega
  have C0 := Lib.hid c0; clear c0
  go_enter Tryz.func158, Tryz.ntmps158
  go_wp2_with (first | (go_at_call 186; refine (bitsMul1 n hn _).mono ?_; rintro e w' ⟨rfl, hw⟩; rw [hw]) | (at_make; refine wpList_make_full _ rfl _ _ 37 rfl w.heap.size 3 i0 (.int .i64 0) 1 Tryz.underlying37 hi hz0 hz1 .i64 .i64 _ _ n rfl rfl rfl rfl (by rw [hz2]; omega) (by unfold maxLen; omega) (Nat.le_refl _) ?_; intro w2 own2 hgrow))
  rw [made_ints] at own2
  have M0 : LbM w w.heap.size n (List.replicate n 0) w2 := ⟨own2, (Below.refl _ _).grown hgrow (Nat.le_refl _) (fun q e => by cases e)⟩
  have c2 : w2.cell? ⟨g, 0, none⟩ = some (.int .i64 (-1)) := (M0.below.cell (p := ⟨g, 0, none⟩) hg).trans C0.out
  clear own2 hgrow
  obtain ⟨p, hp⟩ : ∃ p, w.heap.size = p := ⟨_, rfl⟩
  rw [hp] at M0 ⊢
  by_cases h0 : n = 0
  · subst h0
    have hrun := run_copy_none (P := Tryz.prog) w2 37 37 3 3 (some ⟨p, 0, none⟩) (some ⟨g, 0, none⟩) 0 0 1 1 Tryz.underlying37 infoIntSize rfl
    rw [hrun]
    go_wp2
    have hlp := repLoop (V := w) (wr0 := w2) (p := p) (n := 0) (k := 0) (by omega) (by omega) (.inr rfl)
    unfold bodyOf at hlp
    conv at hlp in (Option.getD _ Code.skip) => whnf
    refine hlp M0 _ ?_
    clear hlp
    intro t8 t34 t35 t36 t37 t38 t39 t40 t41 t42 t43 t44 t45 t46 w3 M3
    go_wp2
    go_ret
    exact ⟨p, rfl, M3⟩
  · have hf : ∀ j : Nat, w2.frozen? ⟨p, 0 + j, none⟩ = false := fun j => M0.frozen _
    have hrun := run_copy_cells (P := Tryz.prog) w2 37 37 3 3 p 0 n n ⟨g, 0, none⟩ 1 1 (intsC [-1]) Tryz.underlying37 infoIntSize (show 1 = Nat.min 1 n from (Nat.min_eq_left (by omega)).symm) (fun j v hj => by
        obtain ⟨x, h1, rfl⟩ := intsC_get hj
        match j, h1 with
        | 0, h1 => (obtain rfl : -1 = x := by simpa using h1); rw [Addr.add_lit]; exact c2
        | j + 1, h1 => simp at h1) (fun j hj => by
        have hj : j < 1 := hj
        have := M0.cell (k := j) (x := 0) (by rw [List.getElem?_replicate, if_pos (by omega)])
        rw [Nat.zero_add, this]; rfl) (fun j _ => hf j) intsC_one
    have M1 := M0.puts [-1] 0
    have hpr : putsL (List.replicate n 0) 0 [-1] = List.replicate 1 (-1) ++ List.replicate (n - 1) 0 := by
      have := puts_rep (-1) 0 1 0 n (by omega)
      simpa using this
    rw [hpr] at M1
    rw [hrun]
    clear hf hrun hpr M0 c2
    obtain ⟨w4, hw4⟩ : ∃ w4, w2.setCells p 0 (intsC [-1]) = w4 := ⟨_, rfl⟩
    rw [hw4] at M1 ⊢
    clear hw4
    go_wp2
    have hlp := repLoop (V := w) (wr0 := w4) (p := p) (n := n) (k := 1) hn (by omega) (.inl (by omega))
    unfold bodyOf at hlp
    conv at hlp in (Option.getD _ Code.skip) => whnf
    refine hlp M1 _ ?_
    clear hlp
    intro t8 t34 t35 t36 t37 t38 t39 t40 t41 t42 t43 t44 t45 t46 w3 M3
    go_wp2
    go_ret
    exact ⟨p, rfl, M3⟩
end Go.Proofs.YtidgeagpgllkeaaGreat
