/- Contract: the bytes of a frame whose samples are 0 (trace.FormatFrame). -/
import Derived.Lib.SlBytesConst
import Derived.Test.YtfgeipapmdhneaaDoorTsC
namespace Go.Proofs.YtfgeipapmdhneaaDoor
open Go.RowKit Go.Lib

/-- An append where there is no room: a new row. -/
theorem run_append_full {P : Program} {w : World} (base : Nat) (t ty e : TypeId) (i : TypeInfo) (z : Value) (size bytes : Nat) (ht : P.underlying t = some (.slice e)) (hi : P.info? e = some i) (hz : i.zero = some z)
    (hsize : i.size = size) (hby : i.bytes = bytes) (hzs : z.cells.size = size)
    (b : Addr) (n : Nat) (xs : List Value) (hlx : xs.length = n * size) (hxs : ∀ j u, xs[j]? = some u → w.cell? (b.add j) = some u)
    (a : Addr) (m c : Nat) (news : List Value) (hl : news.length = m * size) (hnews : ∀ j u, news[j]? = some u → w.cell? (a.add j) = some u) (hm : 0 < m)
    (h63 : n + m ≤ maxLen) (hbytes : (n + m) * bytes ≤ 140737488355328) (hbase : base ≤ w.heap.size) :
    ∃ v' w', (Builtin.append_ #[t, t] ty #[.slice (some b) n n, .slice (some a) m c]).run P w = .ok v' w' ∧ w'.ownsRow base e size v' (n + m) (xs ++ news) ∧ w.grownBy w' none := by
  subst hsize
  subst hby
  have hsmall : n + m ≤ 9223372036854775807 := by simp only [maxLen] at h63; omega
  have hlen : (xs ++ news).length = (n + m) * i.size := by rw [List.length_append, hlx, hl, Nat.add_mul]
  have hr := run_append_grow (P := P) w t ty e i z ht hi hz b n n xs hlx hxs a m c news hl hnews (by omega) (by omega) (growslice_fits (by omega) hbytes)
  have hge := grownCap_ge w (n + m) n e
  have hcm : grownCap w (n + m) n e ≤ maxLen := grownCap_le_maxLen w (n + m) n e h63
  refine ⟨_, _, hr, ⟨hlen, .inr ⟨w.heap.size, _, _, rfl, hbase, heap_alloc_new w.drew _, hge, hcm, ?_, ?_⟩⟩, ⟨rfl, rfl, rfl, by simp, fun k hk _ => heap_alloc_old w.drew _ hk⟩⟩
  · simp only [Array.size_append, List.size_toArray, size_zeroCells, hzs, hlx, hl, ← Nat.add_mul]
    congr 1
    omega
  · simp only [Array.toList_append, List.append_assoc]
    rw [← List.append_assoc, ← hlen]
    exact List.take_left
theorem wpList_append_full {P : Program} (w : World) {ops : Array Oper} {rest : List Oper} {o : Oper} {a : Act} {Q : Exit → Act → World → Prop} (hgd : o.guard = none) (s x : Operand) (t : TypeId)
    (ho : o.op = .call { callee := .builtin .append, args := #[s, x], argTypes := #[t, t] })
    (base : Nat) (e : TypeId) (i : TypeInfo) (z : Value) (size bytes : Nat) (ht : P.underlying t = some (.slice e)) (hi : P.info? e = some i) (hz : i.zero = some z)
    (hsize : i.size = size) (hby : i.bytes = bytes) (hzs : z.cells.size = size)
    (b : Addr) (n : Nat) (xs : List Value) (hs : a.eval s = .slice (some b) n n) (hlx : xs.length = n * size) (hxs : ∀ j u, xs[j]? = some u → w.cell? (b.add j) = some u)
    (ad : Addr) (m c : Nat) (news : List Value) (hx : a.eval x = .slice (some ad) m c) (hl : news.length = m * size) (hnews : ∀ j u, news[j]? = some u → w.cell? (ad.add j) = some u) (hm : 0 < m)
    (h63 : n + m ≤ maxLen) (hbytes : (n + m) * bytes ≤ 140737488355328) (hbase : base ≤ w.heap.size)
    (h : ∀ v' w', w'.ownsRow base e size v' (n + m) (xs ++ news) → w.grownBy w' none → wpList P ops Q rest (a.put o.dst v') w') : wpList P ops Q (o :: rest) a w := by
  refine wpList_plain hgd fun K hK => ?_
  obtain ⟨v', w', hr, h2, h3⟩ := run_append_full (P := P) (w := w) base t o.type e i z size bytes ht hi hz hsize hby hzs b n xs hlx hxs ad m c news hl hnews hm h63 hbytes hbase
  unfold Oper.wp execOp
  simp only [ho, resolve, invoke, builtin, Sem.run_bind, Sem.run_pure, Result.andThen_ok, List.map_toArray, List.map_cons, List.map_nil, hs, hx, hr]
  exact hK _ _ (h v' w' h2 h3)
theorem cells_two {w : World} {g : Nat} {x y : Value} (h0 : w.cell? ⟨g, 0, none⟩ = some x) (h1 : w.cell? ⟨g, 1, none⟩ = some y) : ∀ j u, [x, y][j]? = some u → w.cell? ((⟨g, 0, none⟩ : Addr).add j) = some u := by
  intro j u hj
  rw [Addr.add_lit, Nat.zero_add]
  match j, hj with
  | 0, hj => simp at hj; subst hj; exact h0
  | 1, hj => simp at hj; subst hj; exact h1
  | k + 2, hj => simp at hj
theorem u8C_append (a b : List UInt8) : u8C (a ++ b) = u8C a ++ u8C b := by simp [u8C]
/-- A row of bytes as a text. -/
theorem own_string {P : Program} {w : World} {B n : Nat} {v : Value} {l : List UInt8} {src dst e : TypeId} (hs : P.underlying src = some (.slice e)) (he : P.underlying e = some (.int .u8)) (hd : P.underlying dst = some .string)
    (h : w.ownsRow B e 1 v n (u8C l)) (hn : l.length = n) (h0 : 0 < n) : (convert src dst v).run P w = .ok (.string (strB l)) w := by
  rcases h.2 with ⟨_, h1⟩ | ⟨g, cap, cur, rfl, _, hh, _⟩
  · omega
  · have hc := h.cells (g := g) rfl
    have := run_convert_bytes_back (P := P) w src dst e ⟨g, 0, none⟩ cap l hs he hd (fun j hj => hc j _ (by unfold u8C; rw [List.getElem?_map, List.getElem?_eq_getElem hj]; rfl))
    rw [hn] at this
    exact this
set_option maxRecDepth 100000 in
set_option maxHeartbeats 4000000 in
theorem formatFrame_zero (p : Int) (hp : -1000000000 ≤ p ∧ p ≤ 1000000000) (g cap : Nat) (w : World) (hg : ∀ k, k < 64 → w.cell? ⟨g, k, none⟩ = some (.float .f32 0)) (hgw : g < w.heap.size) :
    Calls Tryd.prog 7 #[.agg #[.int .i64 p, .int .i64 1, .slice (some ⟨g, 0, none⟩) 64 cap]] w fun e w' => e = .returned (.tuple #[.string (strB (frameB p)), .int .i64 0]) ∧ Below w.heap.size w w' := by
  have HG := Lib.hid hg
  clear hg
  have b0 := Blk.new w 35 #[.int .i64 p, .int .i64 1, .slice (some ⟨g, 0, none⟩) 64 cap]
  have hB0 : Below w.heap.size w (w.alloc (.cells #[.int .i64 p, .int .i64 1, .slice (some ⟨g, 0, none⟩) 64 cap] 35)) := (by repeat (first | (with_reducible exact Below.refl _ _) | (with_reducible assumption) | ((with_reducible refine Below.setCell ?_ ?_ _); rotate_left; · (first | exact Nat.le_refl _ | (simp; done) | (simp; omega) | omega)) | ((with_reducible refine Below.alloc ?_ ?_ _); rotate_left; · (first | exact Nat.le_refl _ | (simp; done) | (simp; omega) | omega)) | (with_reducible apply Below.drew) | (with_reducible apply below_drewN') | (refine Below.trans ?_ (Below.mono (by assumption) (by first | exact Nat.le_refl _ | (simp; done) | (simp; omega) | omega))) | exact Below.refl _ _ | assumption))
  have H1 := Lib.hid (matrixErr_zero g cap (w.alloc (.cells #[.int .i64 p, .int .i64 1, .slice (some ⟨g, 0, none⟩) 64 cap] 35)) (fun k hk => by rw [World.cell?_alloc_lt _ _ _ hgw]; exact HG.out k hk) (by simp; omega))
  have kc := fun (w : World) (C : Array Value) (n c : Nat) => Lib.run_convert_bytes_const (P := Tryd.prog) w 67 5 C n c Tryd.underlying67 Tryd.underlying5
  have hd1 : decide ((-1000000000 : Int) ≤ p) = true := decide_eq_true hp.1
  have hd2 : decide (p ≤ (1000000000 : Int)) = true := decide_eq_true hp.2
  obtain ⟨i0, hi, hz0, hz1, hz2⟩ := info_parts (infoU8)
  go_enter Tryd.func7, Tryd.ntmps7
  go_wp2_with fail
  refine (trSmall_any p 1000000000 (by omega) _).mono ?_
  rintro e w1 ⟨rfl, rfl⟩
  rw [hd1, hd2]
  go_wp2_with fail
  refine H1.out.mono ?_
  rintro e w1 ⟨rfl, hB1⟩
  have b1 := b0.below hB1 b0.lt
  replace hB0 := hB0.trans (hB1.mono (by simp))
  have l1 := b1.lt
  obtain ⟨c0, c1, c2, cf⟩ := blk3_ b1
  clear b0 hB1 H1
  have hx1 : ((w1.alloc (.cells #[.int .u8 67, .int .u8 80] 5 (2, 3))).alloc (.cells #[.int .u8 1, .int .u8 1] 5)).cell? ⟨w1.heap.size, 0, none⟩ = some (.int .u8 67) := by
    rw [World.cell?_alloc_lt _ _ _ (by simp)]; exact World.cell?_alloc_mark w1 _ _ _ 0
  have hx2 : ((w1.alloc (.cells #[.int .u8 67, .int .u8 80] 5 (2, 3))).alloc (.cells #[.int .u8 1, .int .u8 1] 5)).cell? ⟨w1.heap.size, 1, none⟩ = some (.int .u8 80) := by
    rw [World.cell?_alloc_lt _ _ _ (by simp)]; exact World.cell?_alloc_mark w1 _ _ _ 1
  have hy := Blk.new' (w1.alloc (.cells #[.int .u8 67, .int .u8 80] 5 (2, 3))) 5 #[.int .u8 1, .int .u8 1] (g := w1.heap.size + 1) (by simp)
  have hal : Below w1.heap.size w1 ((w1.alloc (.cells #[.int .u8 67, .int .u8 80] 5 (2, 3))).alloc (.cells #[.int .u8 1, .int .u8 1] 5)) := ((Below.refl _ _).alloc (Nat.le_refl _) _).alloc (by simp) _
  have HX := Lib.hid (And.intro (cells_two hx1 hx2) (And.intro (cells_two (hy.cell 0) (hy.cell 1)) hal))
  clear hx1 hx2 hy hal
  go_wp2_with (first | (at_builtin; refine wpList_append_full _ rfl _ _ 67 rfl w1.heap.size 5 i0 _ 1 1 Tryd.underlying67 hi hz0 hz1 hz2 rfl ⟨w1.heap.size, 0, none⟩ 2 [.int .u8 67, .int .u8 80] rfl rfl HX.out.1 ⟨w1.heap.size + 1, 0, none⟩ 2 2 [.int .u8 1, .int .u8 1] rfl rfl HX.out.2.1 (by omega) (by unfold maxLen; omega) (by omega) (by simp; omega) ?_; intro v2 W5 hown hgrow; have hB5 : Below w1.heap.size w1 W5 := HX.out.2.2.grown hgrow (by simp; omega) (fun r e => by cases e); have b5 := b1.below hB5 l1; have l5 := b5.lt; obtain ⟨d0, d1, d2, df⟩ := blk3_ b5) | (go_at_call 19; refine (appended_any [.int .u8 67, .int .u8 80, .int .u8 1, .int .u8 1] v2 w1.heap.size 4 p W5 hown (Below.size hB5) (by omega) (by omega) (by simp)).mono ?_; rintro e w6 ⟨v6, rfl, own6, hB6⟩; have hB6' := hB5.trans hB6; have b6 := b1.below hB6' l1; have l6 := b6.lt; obtain ⟨e0, e1, e2, ef⟩ := blk3_ b6))
  have hown6 : w6.ownsRow w1.heap.size 5 1 v6 (8 + 2 * 0) (u8C (frHead p ++ List.replicate (2 * 0) 0)) := by
    have e1 : u8C (frHead p ++ List.replicate (2 * 0) 0) = [.int .u8 67, .int .u8 80, .int .u8 1, .int .u8 1] ++ u8C (wb p 4) := by simp [frHead, u8C]
    rw [e1]; exact own6
  have HB6 := Lib.hid hB6'
  have hfi := fun w => run_convert_float_int (P := Tryd.prog) w 69 3 .f32 .i64 0 0 (by kernel_rfl) Tryd.underlying3 (by kernel_rfl)
  have hw1 : w.heap.size ≤ w1.heap.size := Below.size hB0
  have HB0 := Lib.hid hB0
  clear d0 d1 d2 df e0 e1 e2 ef b5 b6 l5 l6 own6 hown hgrow hB5 hB6 hB6' HX b1 l1 c0 c1 c2 cf kc hB0
  go_loopw [5, 34] (fun s5 s34 wr => ∃ k : Nat, s34 = .int .i64 k ∧ k ≤ 64 ∧ wr.ownsRow w1.heap.size 5 1 s5 (8 + 2 * k) (u8C (frHead p ++ List.replicate (2 * k) 0)) ∧ Below w1.heap.size w1 wr) (fun _ s34 _ => 64 - (RowKit.intOf s34).toNat)
  case atStart => exact ⟨0, rfl, by omega, hown6, HB6.out⟩
  case round =>
    clear hown6 HB6
    obtain ⟨k, rfl, hk, hown, hBB⟩ := hrel
    have hzB := Below.size hBB
    by_cases hlt : k < 64
    · have hlI : (k : Int) < 64 := by omega
      have x0 : wr.cell? ⟨g, k, none⟩ = some (.float .f32 0) := (hBB.cell (p := ⟨g, k, none⟩) (by simp only; omega)).trans ((HB0.out.cell (p := ⟨g, k, none⟩) hgw).trans (HG.out k hlt))
      have hgr : g < wr.heap.size := by omega
      have hle : (u8C (frHead p ++ List.replicate (2 * k) 0)).length = 8 + 2 * k := by
        rw [u8C_length, List.length_append, List.length_replicate]; unfold frHead; rw [List.length_append, wb_length]; rfl
      have HO := Lib.hid (hle ▸ hown)
      clear hown
      go_wp2_with (go_at_call 19; refine (appended_any _ _ w1.heap.size 2 0 wr HO.out (by omega) (by omega) (by omega) (by omega)).mono ?_; rintro e w2 ⟨v2, rfl, own2, hB2⟩)
      refine ⟨⟨k + 1, by go_num, by omega, ?_, hBB.trans hB2⟩, by (first | (simp [RowKit.intOf]; done) | (simp [RowKit.intOf]; omega))⟩
      have e1 : u8C (frHead p ++ List.replicate (2 * (k + 1)) 0) = u8C (frHead p ++ List.replicate (2 * k) 0) ++ u8C (wb 0 2) := by
        rw [← u8C_append]
        congr 1
        rw [show wb 0 2 = List.replicate 2 0 from by decide, List.append_assoc, List.replicate_append_replicate]
        congr 2
      rw [e1, show 8 + 2 * (k + 1) = 8 + 2 * k + 2 by omega, ← hle]
      exact own2
    · obtain rfl : k = 64 := by omega
      have hbl := frBody_length p
      have hown2 : wr.ownsRow w1.heap.size 5 1 _ 136 (u8C (frBody p)) := hown
      have hs1 := own_string (P := Tryd.prog) Tryd.underlying67 Tryd.underlying5 Tryd.underlying9 hown2 hbl (by omega)
      have hck := chk_bd (frBody p) 1 (by omega) (by omega)
      have hle : (u8C (frBody p)).length = 136 := by rw [u8C_length, hbl]
      have HO := Lib.hid (show wr.ownsRow w1.heap.size 5 1 _ (u8C (frBody p)).length (u8C (frBody p)) by rw [hle]; exact hown2)
      clear hown hown2
      go_wp2_with (first
        | (go_at_call 20; refine (check_any (strB (frBody p)) (by rw [strB_size, hbl]; omega) _).mono ?_; rintro e w2 ⟨rfl, rfl⟩; rw [strB_data])
        | (go_at_call 19; refine (appended_any _ _ w1.heap.size 2 (chk 1 (frBody p)) _ HO.out (by omega) (by omega) (by omega) (by omega)).mono ?_; rintro e w3 ⟨v3, rfl, own3, hB3⟩; have hs2 := own_string (P := Tryd.prog) Tryd.underlying67 Tryd.underlying5 Tryd.underlying9 (l := frameB p) (n := 138) (by rw [hle] at own3; unfold frameB; rw [u8C_append]; exact own3) (frameB_length p) (by omega)))
      go_ret2
      exact ⟨rfl, HB0.out.trans ((hBB.trans hB3).mono hw1)⟩
end Go.Proofs.YtfgeipapmdhneaaDoor
