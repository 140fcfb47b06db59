/- A drawn region within a round of a range over a function: it is walked as outside of one. Drawn regions of cover.Parse: within its range, and behind it. -/
import Derived.OrdersIn
import Derived.RangeFuncCalls
import Derived.Test.YtaekcfancfoccaaGreatDoorZmZkRgW
import Derived.Test.YtaekcfancfoccaaGreatDoorZmCuT
import Derived.Test.YtaekcfancfoccaaGreatDoorZmTxV
import Derived.Test.YtaekcfancfoccaaGreatDoorZmShTr
namespace Go.Proofs.YtaekcfancfoccaaGreatDoor
open Go Go.RowKit

section
variable {P : Program} {ops : Array Oper} {Q : Exit → Act → World → Prop} {md : Region.Mode} {S : World → Prop} {n l : Nat}

def noDef (ops : Array Oper) : Bool := ops.all fun o => match o.op with | .defer _ => false | _ => true
theorem noDef_at {i : Nat} {o : Oper} (h : noDef ops = true) (hi : ops[i]? = some o) : ∀ c, o.op ≠ .defer c := by
  intro c e
  unfold noDef at h
  rw [Array.all_eq_true] at h
  obtain ⟨hl, rfl⟩ := Array.getElem?_eq_some_iff.1 hi
  have := h i hl
  rw [e] at this
  cases this
theorem wpIn_round_op {o : Oper} (hd : ∀ c, o.op ≠ .defer c) {a : Act} {w : World} {K : Act → World → Prop} (h : o.wp P a w K (NQ Q)) : o.wpIn (Fence.wide.inRound l) n P a w K (NQ Q) := by
  unfold Oper.wp at h
  refine ⟨fun _ _ => trivial, ?_⟩
  rw [Oper.semAt_eq _ _ _ hd]
  generalize (execOp a.eval o).run P w = r at *
  cases r with
  | ok x w' =>
    cases x <;> simp only [Oper.upon, Oper.uponIn] at h ⊢
    case value u => exact h
    case skip => exact h
    case defer d => exact h
    case enter f args =>
      refine ⟨fun h => (by cases h), CallsIn.inRound l (callsIn_wide.2 (Calls.mono h fun e w'' he => ?_))⟩
      cases e with
      | returned u => exact he
      | panicked c => exact he.elim
      | outgrown => obtain ⟨_, _, h⟩ := he; exact False.elim h
    case row row args => exact ⟨fun h => (by cases h), fun c cs _ => let ⟨v, w', r, s⟩ := h c cs; ⟨v, w', r, stepsIn_wide.2 s⟩⟩
    all_goals exact h.elim
  | halt x w' => cases x <;> simp only [Oper.upon] at h <;> exact h.elim
theorem wpOpIn_round {i : Nat} (hd : noDef ops = true) {a : Act} {w : World} {K K' : Act → World → Prop} (hK : ∀ a w, K a w → K' a w) (h : wpOp P ops (NQ Q) i K a w) : wpOpIn (Fence.wide.inRound l) n P ops (NQ Q) i K' a w := by
  unfold wpOp at h
  unfold wpOpIn
  cases ho : ops[i]? with
  | none => rw [ho] at h; exact hK _ _ h
  | some o =>
    rw [ho] at h
    simp only at h ⊢
    split
    · rename_i hw
      rw [if_pos hw] at h
      rcases h with h | ⟨_, _, _, h⟩
      · exact Oper.wpIn_mono hK (wpIn_round_op (noDef_at hd ho) h)
      · exact False.elim h
    · rename_i hw
      rw [if_neg hw] at h
      exact ⟨fun _ _ => trivial, hK _ _ h⟩
theorem wpAnyIn_round (hd : noDef ops = true) : ∀ (f : Nat) (listed : Array Bool) (a : Act) (w : World), wpAny P md ops (NQ Q) f listed a w → wpAnyIn (Fence.wide.inRound l) n P md ops (NQ Q) f listed a w
  | 0, _, _, _, h => h
  | f + 1, _, _, _, h => ⟨h.1, fun i hi => wpOpIn_round hd (fun a' w' hh => wpAnyIn_round hd f _ a' w' hh) (h.2 i hi)⟩

theorem wpIn_region_r {id : Nat} {L : List Oper} {a : Act} {w : World} (S : World → Prop) (hm : P.follows .mixedOrders = true) (hd : noDef L.toArray = true) (hS : S w.drew)
    (h : wpW P .any L.toArray (NQ Q) S L.length (Array.replicate L.length false) a w.drew) : (Code.region id L.toArray true).wpIn (Fence.wide.inRound l) n P Q a w :=
  wpIn_mono (Q := NQ Q) (wpIn_region_any (Q := NQ Q) hm (wpAnyIn_round hd _ _ _ _ (by simpa using wpAny_of_wpW _ _ _ _ h hS))) (fun e a w h => by cases e <;> first | exact h | exact h.elim)
end
end Go.Proofs.YtaekcfancfoccaaGreatDoor

namespace Go.Proofs.YtaekcfancfoccaaGreatDoor
open Go.RowKit Go.Shelf Go.Lib

theorem trimS_len (l : List UInt8) : (trimSuffix l [10]).length ≤ l.length := by unfold trimSuffix; split <;> simp
theorem trimS_any (s : ByteArray) (hs : s.size ≤ 1000000) (w : World) :
    Calls Tryz.prog 40 #[.string s, .string ⟨#[10]⟩] w fun e w' => e = .returned (.string (strB (trimSuffix s.data.toList [10]))) ∧ w' = w :=
  (Tryz.strings_TrimSuffix s ⟨#[10]⟩ w (by omega)).mono fun e w' ⟨he, hw⟩ => ⟨he, hw⟩

structure Keeps3 (a b c : Nat) (W W' : World) : Prop where
  rest : W'.os = W.os ∧ W'.tape = W.tape ∧ W'.output = W.output
  size : W.heap.size ≤ W'.heap.size
  same : ∀ g, g < W.heap.size → g ≠ a → g ≠ b → g ≠ c → W'.heap[g]? = W.heap[g]?
theorem Keeps3.trans {a b c : Nat} {X Y Z : World} (h : Keeps3 a b c X Y) (k : Keeps3 a b c Y Z) : Keeps3 a b c X Z :=
  ⟨⟨k.rest.1.trans h.rest.1, k.rest.2.1.trans h.rest.2.1, k.rest.2.2.trans h.rest.2.2⟩, Nat.le_trans h.size k.size, fun g hg h1 h2 h3 => (k.same g (Nat.lt_of_lt_of_le hg h.size) h1 h2 h3).trans (h.same g hg h1 h2 h3)⟩
theorem Keeps3.gr {a b c : Nat} {X Y Z : World} (h : Keeps3 a b c X Y) (k : Gr Y Z) : Keeps3 a b c X Z :=
  h.trans ⟨⟨Below.os k, Below.tape k, Below.output k⟩, Below.size k, fun g hg _ _ _ => k.block g hg⟩
theorem Keeps3.set {a b c : Nat} {X Y : World} (h : Keeps3 a b c X Y) (p : Addr) (hp : p.block = a ∨ p.block = b ∨ p.block = c) (u : Value) : Keeps3 a b c X (Y.setCell p u) :=
  h.trans ⟨⟨rfl, rfl, rfl⟩, by simp [World.setCell], fun g _ h1 h2 h3 => Below.heap_setCell Y p u g (by rcases hp with e | e | e <;> rw [e] <;> assumption)⟩
theorem Keeps3.below {a b c B : Nat} {W W' : World} (h : Keeps3 a b c W W') (hB : B ≤ W.heap.size) (h1 : B ≤ a) (h2 : B ≤ b) (h3 : B ≤ c) : Below B W W' :=
  ⟨h.rest.1, h.rest.2.1, h.rest.2.2, h.size, fun g hg => h.same g (by omega) (by omega) (by omega) (by omega)⟩
theorem Keeps3.from_ {a b c B : Nat} {W W' : World} (h : Keeps3 a b c W W') (h1 : a < B) (h2 : b < B) (h3 : c < B) : KeepsFrom B W W' :=
  ⟨h.size, fun k o hB hk _ => (h.same k (Array.getElem?_eq_some_iff.1 hk).1 (by omega) (by omega) (by omega)).trans hk⟩

set_option maxRecDepth 100000 in
set_option maxHeartbeats 4000000 in
theorem pReg8 {W : World} {cb k l n : Nat} (s : ByteArray) (hs : s.size ≤ 1000000) (bc : Blk W cb 3 #[.int .i64 k]) {t0 t1 t2 t3 t4 t5 t8 t9 t10 t11 t12 t13 t14 t15 t16 t17 t18 t19 t20 t21 t22 t23 t24 t25 t26 t27 t28 t29 t30 t31 t32 t33 t34 t35 t36 t37 t38 t39 t40 t41 t42 t43 t44 t45 t46 t47 t48 t49 t50 t51 t52 t53 t54 t55 : Value} {ds : List Deferred} (Q : Exit → Act → World → Prop)
    (h : ∀ (t21 t22 t23 t24 : Value) (A : Option Addr) (c : Nat) (W' : World), Row W' W'.heap.size 3 A (lineWs (trimSuffix s.data.toList [10])).length (tknC k (lineWs (trimSuffix s.data.toList [10]))) → Below W.heap.size W W' → Q .normal ⟨#[t0, t1, t2, t3, t4, t5, .pointer (some ⟨cb, 0, none⟩), .string s, .slice A (lineWs (trimSuffix s.data.toList [10])).length c, t9, t10, t11, t12, t13, t14, t15, t16, t17, t18, t19, t20, t21, t22, t23, t24, t25, t26, t27, t28, t29, t30, t31, t32, t33, t34, t35, t36, t37, t38, t39, t40, t41, t42, t43, t44, t45, t46, t47, t48, t49, t50, t51, t52, t53, t54, t55], ds⟩ W') :
    (regOf Tryz.f10 8).wpIn (Fence.wide.inRound l) n Tryz.prog Q ⟨#[t0, t1, t2, t3, t4, t5, .pointer (some ⟨cb, 0, none⟩), .string s, t8, t9, t10, t11, t12, t13, t14, t15, t16, t17, t18, t19, t20, t21, t22, t23, t24, t25, t26, t27, t28, t29, t30, t31, t32, t33, t34, t35, t36, t37, t38, t39, t40, t41, t42, t43, t44, t45, t46, t47, t48, t49, t50, t51, t52, t53, t54, t55], ds⟩ W := by
  have H := Lib.hid h; clear h
  have c0 : W.cell? ⟨cb, 0, none⟩ = some (.int .i64 k) := bc.cell 0
  have l0 := bc.lt
  have HX : Hid ((strB (trimSuffix s.data.toList [10])).size ≤ 1000000) := Lib.hid (by
    rw [strB_size]
    have h1 := trimS_len s.data.toList
    have h2 : s.data.toList.length = s.size := by rw [Array.length_toList]; rfl
    omega)
  conv in (regOf _ _) => whnf
  refine wpIn_region_r (Gr _) (by kernel_rfl) (by kernel_rfl) (Below.refl _ _).drew ?_
  refine wpW_det (t' := ?ct0R1) 0 (by rfl) (by kernel_rfl) (NQ_free _) (by kernel_rfl) ?cw0R1 ?ch0R1 ?ca0R1 (Eq.refl _) ?cH0R1
  case cw0R1 => (go_simp; done)
  case ch0R1 =>
    intro ds w' hS K hK
    have hc := (bcell hS).1; have hf := (bcell hS).2; have hz := hS.size; (try simp at hz); go_simp; (try go_bits)
    first
      | exact hK _ hS (Gr.refl _)
      | (go_at_call 40; refine (trimS_any _ hs _).mono ?_; rintro e wq ⟨rfl, rfl⟩; exact hK _ hS (Gr.refl _))
      | exact hK _ (hS.alloc hS.size _) ((Below.refl _ _).alloc (Nat.le_refl _) _)
  case ca0R1 => (first | (simp [Act.put]; done) | (simp [Act.put, *]; done))
  try dsimp only
  refine wpW_det (t' := ?ct1R1) 1 (by rfl) (by kernel_rfl) (NQ_free _) (by kernel_rfl) ?cw1R1 ?ch1R1 ?ca1R1 (Eq.refl _) ?cH1R1
  case cw1R1 => (go_simp; done)
  case ch1R1 =>
    intro ds w' hS K hK
    have hc := (bcell hS).1; have hf := (bcell hS).2; have hz := hS.size; (try simp at hz); go_simp; (try go_bits)
    first
      | exact hK _ hS (Gr.refl _)
      | (go_at_call 40; refine (trimS_any _ hs _).mono ?_; rintro e wq ⟨rfl, rfl⟩; exact hK _ hS (Gr.refl _))
      | exact hK _ (hS.alloc hS.size _) ((Below.refl _ _).alloc (Nat.le_refl _) _)
  case ca1R1 => (first | (simp [Act.put]; done) | (simp [Act.put, *]; done))
  try dsimp only
  refine wpW_det (t' := ?ct2R1) 2 (by rfl) (by kernel_rfl) (NQ_free _) (by kernel_rfl) ?cw2R1 ?ch2R1 ?ca2R1 (Eq.refl _) ?cH2R1
  case cw2R1 => (go_simp; done)
  case ch2R1 =>
    intro ds w' hS K hK
    have hc := (bcell hS).1; have hf := (bcell hS).2; have hz := hS.size; (try simp at hz); go_simp; (try go_bits)
    first
      | exact hK _ hS (Gr.refl _)
      | (go_at_call 40; refine (trimS_any _ hs _).mono ?_; rintro e wq ⟨rfl, rfl⟩; exact hK _ hS (Gr.refl _))
      | exact hK _ (hS.alloc hS.size _) ((Below.refl _ _).alloc (Nat.le_refl _) _)
  case ca2R1 => (first | (simp [Act.put]; done) | (simp [Act.put, *]; done))
  try dsimp only
  unfold lineWs at H
  generalize strB (trimSuffix s.data.toList [10]) = X at *
  refine wpW_branch [3] (by kernel_rfl) (by simp) ?_
  intro w1 hg1 hS1
  refine each_cons ?_ (each_nil)
  · refine wpOp_go (by rfl) (Eq.refl _) (by go_simp; done) ?_
    intro K hK
    go_simp
    try simp only [Act.put]
    go_at_call 39
    refine (tokens_any X k HX.out _).mono ?_
    rintro e wq ⟨v, rfl, own, hBq⟩
    rw [toksC_eq, show (lineW X).length = (wordsC X (lineW X)).length by unfold wordsC; rw [List.length_map]] at own
    obtain ⟨Aw, cw, rfl, Rw⟩ := Row.own own
    refine hK _ _ (Below.trans hS1 (Below.mono hBq (Below.size hS1))) ?_
    clear hK K
    refine wpW_branch [4] (by kernel_rfl) (by simp) ?_
    intro w2 hg2 hS2
    refine each_cons ?_ (each_nil)
    · refine wpOp_go (by rfl) (Eq.refl _) (by go_simp; done) ?_
      intro K hK
      go_simp
      try simp only [Act.put]
      refine hK _ _ hS2 ?_
      clear hK K
      refine wpW_end (by kernel_rfl) ?_
      intro we hg hS
      unfold NQ
      dsimp only
      exact H.out _ _ _ _ Aw cw we ((Rw.below (Gr.trans hg2 hg) (Nat.le_refl _)).more (Below.size (Gr.trans hg2 hg))) hS

set_option maxRecDepth 100000 in
set_option maxHeartbeats 8000000 in
theorem pReg17 {W : World} {rb mb eb l n : Nat} (br : Blk W rb 24 #[.string ⟨#[]⟩, .int .i64 0, .int .i64 0, .slice none 0 0]) (bm : Blk W mb 34 #[.int .i64 0, .int .i64 0]) (be : Blk W eb 27 #[.int .i64 0]) {fb : Nat} {ml mc er : Int} (bf : Blk W fb 109 #[.int .i64 ml, .int .i64 mc, .int .i64 er]) (d1 : ¬ fb = rb) (d2 : ¬ fb = mb) (d3 : ¬ fb = eb) (hrm : ¬ rb = mb) (hre : ¬ rb = eb) (hme : ¬ mb = eb) {t0 t1 t5 t6 t7 t8 t10 t11 t12 t13 t14 t15 t16 t17 t18 t19 t20 t21 t22 t23 t24 t25 t26 t27 t28 t29 t30 t31 t32 t33 t34 t35 t36 t37 t38 t39 t40 t41 t42 t43 t44 t45 t46 t47 t48 t49 t50 t51 t52 t53 t54 t55 : Value} {ds : List Deferred} (Q : Exit → Act → World → Prop)
    (h : ∀ (t41 t42 t43 t44 t45 : Value) (w' : World), Blk w' rb 24 #[.string ⟨#[]⟩, .int .i64 0, .int .i64 0, .slice none 0 0] → Blk w' mb 34 #[.int .i64 ml, .int .i64 mc] → Blk w' eb 27 #[.int .i64 er] → Keeps3 rb mb eb W w' → Q .normal ⟨#[t0, t1, .pointer (some ⟨rb, 0, none⟩), .pointer (some ⟨mb, 0, none⟩), .pointer (some ⟨eb, 0, none⟩), t5, t6, t7, t8, .pointer (some ⟨fb, 0, none⟩), t10, t11, t12, t13, t14, t15, t16, t17, t18, t19, t20, t21, t22, t23, t24, t25, t26, t27, t28, t29, t30, t31, t32, t33, t34, t35, t36, t37, t38, t39, t40, t41, t42, t43, t44, t45, t46, t47, t48, t49, t50, t51, t52, t53, t54, t55], ds⟩ w') :
    (regOf Tryz.f10 17).wpIn (Fence.wide.inRound l) n Tryz.prog Q ⟨#[t0, t1, .pointer (some ⟨rb, 0, none⟩), .pointer (some ⟨mb, 0, none⟩), .pointer (some ⟨eb, 0, none⟩), t5, t6, t7, t8, .pointer (some ⟨fb, 0, none⟩), t10, t11, t12, t13, t14, t15, t16, t17, t18, t19, t20, t21, t22, t23, t24, t25, t26, t27, t28, t29, t30, t31, t32, t33, t34, t35, t36, t37, t38, t39, t40, t41, t42, t43, t44, t45, t46, t47, t48, t49, t50, t51, t52, t53, t54, t55], ds⟩ W := by
  have H := Lib.hid h; clear h
  have hmr : ¬ mb = rb := fun e => hrm e.symm
  have her : ¬ eb = rb := fun e => hre e.symm
  have hem : ¬ eb = mb := fun e => hme e.symm
  skip
  have K3 : Keeps3 rb mb eb W W.drew := ⟨⟨rfl, rfl, rfl⟩, Nat.le_refl _, fun _ _ _ _ _ => rfl⟩
  have br := br.drew
  have bm := bm.drew
  have be := be.drew
  conv in (regOf _ _) => whnf
  refine wpIn_region_r (fun w' => Blk w' fb 109 #[.int .i64 ml, .int .i64 mc, .int .i64 er]) (by kernel_rfl) (by kernel_rfl) (bf.drew) ?_
  refine wpW_det (t' := ?ct0R2) 0 (by rfl) (by kernel_rfl) (NQ_free _) (by kernel_rfl) ?cw0R2 ?ch0R2 ?ca0R2 (Eq.refl _) ?cH0R2
  case cw0R2 => (go_simp; done)
  case ch0R2 =>
    intro ds w' hS K hK
    obtain ⟨f0, f1, f2, ff⟩ := blk3 hS
    have lf := Blk.lt hS
    go_simp
    try go_bits
    exact hK _ hS (Gr.refl _)
  case ca0R2 => (first | (simp [Act.put]; done) | (simp [Act.put, *]; done))
  try dsimp only
  refine wpW_det (t' := ?ct1R2) 1 (by rfl) (by kernel_rfl) (NQ_free _) (by kernel_rfl) ?cw1R2 ?ch1R2 ?ca1R2 (Eq.refl _) ?cH1R2
  case cw1R2 => (go_simp; done)
  case ch1R2 =>
    intro ds w' hS K hK
    obtain ⟨f0, f1, f2, ff⟩ := blk3 hS
    have lf := Blk.lt hS
    go_simp
    try go_bits
    exact hK _ hS (Gr.refl _)
  case ca1R2 => (first | (simp [Act.put]; done) | (simp [Act.put, *]; done))
  try dsimp only
  refine wpW_det (t' := ?ct2R2) 2 (by rfl) (by kernel_rfl) (NQ_free _) (by kernel_rfl) ?cw2R2 ?ch2R2 ?ca2R2 (Eq.refl _) ?cH2R2
  case cw2R2 => (go_simp; done)
  case ch2R2 =>
    intro ds w' hS K hK
    obtain ⟨f0, f1, f2, ff⟩ := blk3 hS
    have lf := Blk.lt hS
    go_simp
    try go_bits
    exact hK _ hS (Gr.refl _)
  case ca2R2 => (first | (simp [Act.put]; done) | (simp [Act.put, *]; done))
  try dsimp only
  refine wpW_det (t' := ?ct3R2) 3 (by rfl) (by kernel_rfl) (NQ_free _) (by kernel_rfl) ?cw3R2 ?ch3R2 ?ca3R2 (Eq.refl _) ?cH3R2
  case cw3R2 => (go_simp; done)
  case ch3R2 =>
    intro ds w' hS K hK
    obtain ⟨f0, f1, f2, ff⟩ := blk3 hS
    have lf := Blk.lt hS
    go_simp
    try go_bits
    exact hK _ hS (Gr.refl _)
  case ca3R2 => (first | (simp [Act.put]; done) | (simp [Act.put, *]; done))
  try dsimp only
  refine wpW_det (t' := ?ct4R2) 4 (by rfl) (by kernel_rfl) (NQ_free _) (by kernel_rfl) ?cw4R2 ?ch4R2 ?ca4R2 (Eq.refl _) ?cH4R2
  case cw4R2 => (go_simp; done)
  case ch4R2 =>
    intro ds w' hS K hK
    obtain ⟨f0, f1, f2, ff⟩ := blk3 hS
    have lf := Blk.lt hS
    go_simp
    try go_bits
    exact hK _ hS (Gr.refl _)
  case ca4R2 => (first | (simp [Act.put]; done) | (simp [Act.put, *]; done))
  try dsimp only
  refine wpW_branch [5] (by kernel_rfl) (by simp) ?_
  intro w1 hg1 hS1
  replace br := Blk.gr br hg1
  replace bm := Blk.gr bm hg1
  replace be := Blk.gr be hg1
  replace K3 := Keeps3.gr K3 hg1
  try clear r0 r1 r2 r3 rf m0 m1 mf e0 ef
  obtain ⟨r0, r1, r2, r3, rf⟩ := blk4 br
  obtain ⟨m0, m1⟩ := blk2c bm
  have mf : ∀ i, w1.frozen? ⟨mb, i, none⟩ = false := bm.frozen
  have e0 := be.cell 0
  have ef : ∀ i, w1.frozen? ⟨eb, i, none⟩ = false := be.frozen
  simp at e0
  refine each_cons ?_ (each_nil)
  · refine wpOp_go (by rfl) (Eq.refl _) (by go_simp; done) ?_
    intro K hK
    go_simp
    try simp only [Act.put]
    refine hK _ _ (Blk.far4 hS1 (p := rb) d1 (.string ⟨#[]⟩) (.int .i64 0) (.int .i64 0) (.slice none 0 0)) ?_
    clear hK K
    replace br := Blk.set4 br (.string ⟨#[]⟩) (.int .i64 0) (.int .i64 0) (.slice none 0 0)
    replace bm := Blk.far4 bm (p := rb) hmr (.string ⟨#[]⟩) (.int .i64 0) (.int .i64 0) (.slice none 0 0)
    replace be := Blk.far4 be (p := rb) her (.string ⟨#[]⟩) (.int .i64 0) (.int .i64 0) (.slice none 0 0)
    replace K3 := (((K3.set ⟨rb, 0, none⟩ (.inl rfl) (.string ⟨#[]⟩)).set ⟨rb, 1, none⟩ (.inl rfl) (.int .i64 0)).set ⟨rb, 2, none⟩ (.inl rfl) (.int .i64 0)).set ⟨rb, 3, none⟩ (.inl rfl) (.slice none 0 0)
    refine wpW_branch [6] (by kernel_rfl) (by simp) ?_
    intro w2 hg2 hS2
    replace br := Blk.gr br hg2
    replace bm := Blk.gr bm hg2
    replace be := Blk.gr be hg2
    replace K3 := Keeps3.gr K3 hg2
    try clear r0 r1 r2 r3 rf m0 m1 mf e0 ef
    obtain ⟨r0, r1, r2, r3, rf⟩ := blk4 br
    obtain ⟨m0, m1⟩ := blk2c bm
    have mf : ∀ i, w2.frozen? ⟨mb, i, none⟩ = false := bm.frozen
    have e0 := be.cell 0
    have ef : ∀ i, w2.frozen? ⟨eb, i, none⟩ = false := be.frozen
    simp at e0
    refine each_cons ?_ (each_nil)
    · refine wpOp_go (by rfl) (Eq.refl _) (by go_simp; done) ?_
      intro K hK
      go_simp
      try simp only [Act.put]
      refine hK _ _ ((Blk.far hS2 (p := ⟨mb, 0, none⟩) d2 (.int .i64 ml)).far (p := ⟨mb, 1, none⟩) d2 (.int .i64 mc)) ?_
      clear hK K
      replace br := (br.far (p := ⟨mb, 0, none⟩) hrm (.int .i64 ml)).far (p := ⟨mb, 1, none⟩) hrm (.int .i64 mc)
      replace bm := (bm.set_ 0 (.int .i64 ml)).set_ 1 (.int .i64 mc)
      replace bm : Blk _ mb 34 #[.int .i64 ml, .int .i64 mc] := bm
      replace be := (be.far (p := ⟨mb, 0, none⟩) hem (.int .i64 ml)).far (p := ⟨mb, 1, none⟩) hem (.int .i64 mc)
      replace K3 := (K3.set ⟨mb, 0, none⟩ (.inr (.inl rfl)) (.int .i64 ml)).set ⟨mb, 1, none⟩ (.inr (.inl rfl)) (.int .i64 mc)
      refine wpW_branch [7] (by kernel_rfl) (by simp) ?_
      intro w3 hg3 hS3
      replace br := Blk.gr br hg3
      replace bm := Blk.gr bm hg3
      replace be := Blk.gr be hg3
      replace K3 := Keeps3.gr K3 hg3
      try clear r0 r1 r2 r3 rf m0 m1 mf e0 ef
      obtain ⟨r0, r1, r2, r3, rf⟩ := blk4 br
      obtain ⟨m0, m1⟩ := blk2c bm
      have mf : ∀ i, w3.frozen? ⟨mb, i, none⟩ = false := bm.frozen
      have e0 := be.cell 0
      have ef : ∀ i, w3.frozen? ⟨eb, i, none⟩ = false := be.frozen
      simp at e0
      refine each_cons ?_ (each_nil)
      · refine wpOp_go (by rfl) (Eq.refl _) (by go_simp; done) ?_
        intro K hK
        go_simp
        try simp only [Act.put]
        refine hK _ _ (Blk.far hS3 (p := ⟨eb, 0, none⟩) d3 (.int .i64 er)) ?_
        clear hK K
        replace br := br.far (p := ⟨eb, 0, none⟩) hre (.int .i64 er)
        replace bm := bm.far (p := ⟨eb, 0, none⟩) hme (.int .i64 er)
        replace be := be.set_ 0 (.int .i64 er)
        replace be : Blk _ eb 27 #[.int .i64 er] := be
        replace K3 := K3.set ⟨eb, 0, none⟩ (.inr (.inr rfl)) (.int .i64 er)
        refine wpW_end (by kernel_rfl) ?_
        intro we hg hS
        unfold NQ
        dsimp only
        exact H.out _ _ _ _ _ we (br.gr hg) (bm.gr hg) (be.gr hg) (K3.gr hg)

set_option maxRecDepth 100000 in
set_option maxHeartbeats 8000000 in
theorem pReg19 {W : World} {rb mb eb : Nat} (br : Blk W rb 24 #[.string ⟨#[]⟩, .int .i64 0, .int .i64 0, .slice none 0 0]) (bm : Blk W mb 34 #[.int .i64 0, .int .i64 0]) (be : Blk W eb 27 #[.int .i64 0]) {cb : Nat} {k : Nat} (hk : k ≤ 1000000) (bf : Blk W cb 3 #[.int .i64 k]) (d1 : ¬ cb = rb) (d2 : ¬ cb = mb) (d3 : ¬ cb = eb) (hrm : ¬ rb = mb) (hre : ¬ rb = eb) (hme : ¬ mb = eb) {t0 t1 t5 t7 t8 t9 t10 t11 t12 t13 t14 t15 t16 t17 t18 t19 t20 t21 t22 t23 t24 t25 t26 t27 t28 t29 t30 t31 t32 t33 t34 t35 t36 t37 t38 t39 t40 t41 t42 t43 t44 t45 t46 t47 t48 t49 t50 t51 t52 t53 t54 t55 : Value} {ds : List Deferred} (Q : Exit → Act → World → Prop)
    (h : ∀ (t48 t49 t50 t51 : Value) (w' : World), Blk w' rb 24 #[.string ⟨#[]⟩, .int .i64 0, .int .i64 0, .slice none 0 0] → Blk w' mb 34 #[.int .i64 ((k : Int) + 1), .int .i64 1] → Blk w' eb 27 #[.int .i64 6] → Keeps3 rb mb eb W w' → Q .normal ⟨#[t0, t1, .pointer (some ⟨rb, 0, none⟩), .pointer (some ⟨mb, 0, none⟩), .pointer (some ⟨eb, 0, none⟩), t5, .pointer (some ⟨cb, 0, none⟩), t7, t8, t9, t10, t11, t12, t13, t14, t15, t16, t17, t18, t19, t20, t21, t22, t23, t24, t25, t26, t27, t28, t29, t30, t31, t32, t33, t34, t35, t36, t37, t38, t39, t40, t41, t42, t43, t44, t45, t46, t47, t48, t49, t50, t51, t52, t53, t54, t55], ds⟩ w') :
    (regOf Tryz.f10 19).wp Tryz.prog Q ⟨#[t0, t1, .pointer (some ⟨rb, 0, none⟩), .pointer (some ⟨mb, 0, none⟩), .pointer (some ⟨eb, 0, none⟩), t5, .pointer (some ⟨cb, 0, none⟩), t7, t8, t9, t10, t11, t12, t13, t14, t15, t16, t17, t18, t19, t20, t21, t22, t23, t24, t25, t26, t27, t28, t29, t30, t31, t32, t33, t34, t35, t36, t37, t38, t39, t40, t41, t42, t43, t44, t45, t46, t47, t48, t49, t50, t51, t52, t53, t54, t55], ds⟩ W := by
  have H := Lib.hid h; clear h
  have hmr : ¬ mb = rb := fun e => hrm e.symm
  have her : ¬ eb = rb := fun e => hre e.symm
  have hem : ¬ eb = mb := fun e => hme e.symm
  skip
  have K3 : Keeps3 rb mb eb W W.drew := ⟨⟨rfl, rfl, rfl⟩, Nat.le_refl _, fun _ _ _ _ _ => rfl⟩
  have br := br.drew
  have bm := bm.drew
  have be := be.drew
  conv in (regOf _ _) => whnf
  refine wp_region_w (fun w' => Blk w' cb 3 #[.int .i64 k]) (by kernel_rfl) (bf.drew) ?_
  refine wpW_det (t' := ?ct0R3) 0 (by rfl) (by kernel_rfl) (NQ_free _) (by kernel_rfl) ?cw0R3 ?ch0R3 ?ca0R3 (Eq.refl _) ?cH0R3
  case cw0R3 => (go_simp; done)
  case ch0R3 =>
    intro ds w' hS K hK
    have f0 : w'.cell? ⟨cb, 0, none⟩ = some (.int .i64 k) := Blk.cell hS 0
    have lf := Blk.lt hS
    go_simp
    try go_bits
    exact hK _ hS (Gr.refl _)
  case ca0R3 => (first | (simp [Act.put]; done) | (simp [Act.put, *]; done))
  try dsimp only
  refine wpW_det (t' := ?ct1R3) 1 (by rfl) (by kernel_rfl) (NQ_free _) (by kernel_rfl) ?cw1R3 ?ch1R3 ?ca1R3 (Eq.refl _) ?cH1R3
  case cw1R3 => (go_simp; done)
  case ch1R3 =>
    intro ds w' hS K hK
    have f0 : w'.cell? ⟨cb, 0, none⟩ = some (.int .i64 k) := Blk.cell hS 0
    have lf := Blk.lt hS
    go_simp
    try go_bits
    exact hK _ hS (Gr.refl _)
  case ca1R3 => (first | (simp [Act.put]; done) | (simp [Act.put, *]; done))
  try dsimp only
  refine wpW_det (t' := ?ct2R3) 2 (by rfl) (by kernel_rfl) (NQ_free _) (by kernel_rfl) ?cw2R3 ?ch2R3 ?ca2R3 (Eq.refl _) ?cH2R3
  case cw2R3 => (go_simp; done)
  case ch2R3 =>
    intro ds w' hS K hK
    have f0 : w'.cell? ⟨cb, 0, none⟩ = some (.int .i64 k) := Blk.cell hS 0
    have lf := Blk.lt hS
    go_simp
    try go_bits
    exact hK _ hS (Gr.refl _)
  case ca2R3 => (first | (simp [Act.put]; done) | (simp [Act.put, *]; done))
  try dsimp only
  refine wpW_det (t' := ?ct3R3) 3 (by rfl) (by kernel_rfl) (NQ_free _) (by kernel_rfl) ?cw3R3 ?ch3R3 ?ca3R3 (Eq.refl _) ?cH3R3
  case cw3R3 => (go_simp; done)
  case ch3R3 =>
    intro ds w' hS K hK
    have f0 : w'.cell? ⟨cb, 0, none⟩ = some (.int .i64 k) := Blk.cell hS 0
    have lf := Blk.lt hS
    go_simp
    try go_bits
    exact hK _ hS (Gr.refl _)
  case ca3R3 => (first | (simp [Act.put]; done) | (simp [Act.put, *]; done))
  try dsimp only
  refine wpW_branch [4] (by kernel_rfl) (by simp) ?_
  intro w1 hg1 hS1
  replace br := Blk.gr br hg1
  replace bm := Blk.gr bm hg1
  replace be := Blk.gr be hg1
  replace K3 := Keeps3.gr K3 hg1
  try clear r0 r1 r2 r3 rf m0 m1 mf e0 ef
  obtain ⟨r0, r1, r2, r3, rf⟩ := blk4 br
  obtain ⟨m0, m1⟩ := blk2c bm
  have mf : ∀ i, w1.frozen? ⟨mb, i, none⟩ = false := bm.frozen
  have e0 := be.cell 0
  have ef : ∀ i, w1.frozen? ⟨eb, i, none⟩ = false := be.frozen
  simp at e0
  refine each_cons ?_ (each_nil)
  · refine wpOp_go (by rfl) (Eq.refl _) (by go_simp; done) ?_
    intro K hK
    go_simp
    try simp only [Act.put]
    refine hK _ _ (Blk.far4 hS1 (p := rb) d1 (.string ⟨#[]⟩) (.int .i64 0) (.int .i64 0) (.slice none 0 0)) ?_
    clear hK K
    replace br := Blk.set4 br (.string ⟨#[]⟩) (.int .i64 0) (.int .i64 0) (.slice none 0 0)
    replace bm := Blk.far4 bm (p := rb) hmr (.string ⟨#[]⟩) (.int .i64 0) (.int .i64 0) (.slice none 0 0)
    replace be := Blk.far4 be (p := rb) her (.string ⟨#[]⟩) (.int .i64 0) (.int .i64 0) (.slice none 0 0)
    replace K3 := (((K3.set ⟨rb, 0, none⟩ (.inl rfl) (.string ⟨#[]⟩)).set ⟨rb, 1, none⟩ (.inl rfl) (.int .i64 0)).set ⟨rb, 2, none⟩ (.inl rfl) (.int .i64 0)).set ⟨rb, 3, none⟩ (.inl rfl) (.slice none 0 0)
    refine wpW_branch [5] (by kernel_rfl) (by simp) ?_
    intro w2 hg2 hS2
    replace br := Blk.gr br hg2
    replace bm := Blk.gr bm hg2
    replace be := Blk.gr be hg2
    replace K3 := Keeps3.gr K3 hg2
    try clear r0 r1 r2 r3 rf m0 m1 mf e0 ef
    obtain ⟨r0, r1, r2, r3, rf⟩ := blk4 br
    obtain ⟨m0, m1⟩ := blk2c bm
    have mf : ∀ i, w2.frozen? ⟨mb, i, none⟩ = false := bm.frozen
    have e0 := be.cell 0
    have ef : ∀ i, w2.frozen? ⟨eb, i, none⟩ = false := be.frozen
    simp at e0
    refine each_cons ?_ (each_nil)
    · refine wpOp_go (by rfl) (Eq.refl _) (by go_simp; done) ?_
      intro K hK
      go_simp
      try simp only [Act.put]
      refine hK _ _ ((Blk.far hS2 (p := ⟨mb, 0, none⟩) d2 (.int .i64 ((k : Int) + 1))).far (p := ⟨mb, 1, none⟩) d2 (.int .i64 1)) ?_
      clear hK K
      replace br := (br.far (p := ⟨mb, 0, none⟩) hrm (.int .i64 ((k : Int) + 1))).far (p := ⟨mb, 1, none⟩) hrm (.int .i64 1)
      replace bm := (bm.set_ 0 (.int .i64 ((k : Int) + 1))).set_ 1 (.int .i64 1)
      replace bm : Blk _ mb 34 #[.int .i64 ((k : Int) + 1), .int .i64 1] := bm
      replace be := (be.far (p := ⟨mb, 0, none⟩) hem (.int .i64 ((k : Int) + 1))).far (p := ⟨mb, 1, none⟩) hem (.int .i64 1)
      replace K3 := (K3.set ⟨mb, 0, none⟩ (.inr (.inl rfl)) (.int .i64 ((k : Int) + 1))).set ⟨mb, 1, none⟩ (.inr (.inl rfl)) (.int .i64 1)
      refine wpW_branch [6] (by kernel_rfl) (by simp) ?_
      intro w3 hg3 hS3
      replace br := Blk.gr br hg3
      replace bm := Blk.gr bm hg3
      replace be := Blk.gr be hg3
      replace K3 := Keeps3.gr K3 hg3
      try clear r0 r1 r2 r3 rf m0 m1 mf e0 ef
      obtain ⟨r0, r1, r2, r3, rf⟩ := blk4 br
      obtain ⟨m0, m1⟩ := blk2c bm
      have mf : ∀ i, w3.frozen? ⟨mb, i, none⟩ = false := bm.frozen
      have e0 := be.cell 0
      have ef : ∀ i, w3.frozen? ⟨eb, i, none⟩ = false := be.frozen
      simp at e0
      refine each_cons ?_ (each_nil)
      · refine wpOp_go (by rfl) (Eq.refl _) (by go_simp; done) ?_
        intro K hK
        go_simp
        try simp only [Act.put]
        refine hK _ _ (Blk.far hS3 (p := ⟨eb, 0, none⟩) d3 (.int .i64 6)) ?_
        clear hK K
        replace br := br.far (p := ⟨eb, 0, none⟩) hre (.int .i64 6)
        replace bm := bm.far (p := ⟨eb, 0, none⟩) hme (.int .i64 6)
        replace be := be.set_ 0 (.int .i64 6)
        replace be : Blk _ eb 27 #[.int .i64 6] := be
        replace K3 := K3.set ⟨eb, 0, none⟩ (.inr (.inr rfl)) (.int .i64 6)
        refine wpW_end (by kernel_rfl) ?_
        intro we hg hS
        unfold NQ
        dsimp only
        exact H.out _ _ _ _ we (br.gr hg) (bm.gr hg) (be.gr hg) (K3.gr hg)
end Go.Proofs.YtaekcfancfoccaaGreatDoor
