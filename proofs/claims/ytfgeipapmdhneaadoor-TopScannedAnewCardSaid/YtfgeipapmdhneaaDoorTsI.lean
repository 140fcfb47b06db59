/- Contract: trace.ParseFrame of a whole frame. -/
import Derived.Test.YtfgeipapmdhneaaDoorTsH
namespace Go.Proofs.YtfgeipapmdhneaaDoor
open Go.RowKit Go.Lib Go.Shelf

attribute [local go_sem] Oper.semAt_some

theorem infoF32 : (Tryd.prog.info? 69).map (fun i => (i.zero, i.size, i.bytes)) = some (some (.float .f32 0), 1, 4) := by kernel_rfl
theorem wrap32 {p q : Int} (hp : -1000000000 ≤ p ∧ p ≤ 1000000000) (hq : q = p % 4294967296) : IntKind.wrap .i32 q = p := by
  subst hq
  unfold IntKind.wrap
  simp [IntKind.bits, IntKind.signed]
  split <;> omega
set_option maxRecDepth 100000 in
set_option maxHeartbeats 1000000 in
theorem parseFrame_whole (s : ByteArray) (p : Int) (h : s.data.toList = frameB p) (hp : -1000000000 ≤ p ∧ p ≤ 1000000000) (w : World) :
    Calls Tryd.prog 21 #[.string s] w fun e w' => (∃ A c, e = .returned (.tuple #[.agg #[.int .i64 p, .int .i64 1, .slice A 64 c], .int .i64 0])) ∧ Below w.heap.size w w' := by
  have hsz : s.size = 138 := by
    have := frameB_length p
    rw [← h] at this
    simpa using this
  obtain ⟨r, hr⟩ := frame_begin p
  have hh := h.trans hr
  have g2 : (s[2]'(by omega)) = 1 := by
    have h1 : (s.data.toList)[2]'(by rw [hh]; simp) = 1 := by simp [hh]
    exact h1
  have g3 : (s[3]'(by omega)) = 1 := by
    have h1 : (s.data.toList)[3]'(by rw [hh]; simp) = 1 := by simp [hh]
    exact h1
  have hI : (s.size : Int) = 138 := by omega
  have hbl := frBody_length p
  have hck := chk_bd (frBody p) 1 (by omega) (by omega)
  have hbody : (s.extract 0 136).data.toList = frBody p := by
    have h1 : (s.extract 0 136).data.toList = (s.data.toList).take 136 := by simp [ByteArray.data_extract, Array.toList_extract]
    rw [h1, h]; unfold frameB; rw [List.take_append_of_le_length (by omega), List.take_of_length_le (by omega)]
  have htold : (s.extract 136 138).data.toList = wb (chk 1 (frBody p)) 2 := by
    have h1 : (s.extract 136 138).data.toList = ((s.data.toList).drop 136).take 2 := by simp [ByteArray.data_extract, Array.toList_extract]
    rw [h1, h]; unfold frameB; rw [← hbl, List.drop_left, List.take_of_length_le (by rw [wb_length]; omega)]
  have h2 : (frHead p).length = 8 := by unfold frHead; rw [List.length_append, wb_length]; rfl
  have hpos : ((s.extract 0 136).extract 4 8).data.toList = wb p 4 := by
    have h1 : ((s.extract 0 136).extract 4 8).data.toList = (((s.extract 0 136).data.toList).drop 4).take 4 := by simp only [ByteArray.data_extract, Array.toList_extract, List.extract_eq_take_drop]
    rw [h1, hbody]; unfold frBody frHead
    rw [List.append_assoc, List.drop_append_of_le_length (by simp)]
    rw [show List.drop 4 ([67, 80, 1, 1] : List UInt8) = [] from rfl, List.nil_append, List.take_append_of_le_length (by rw [wb_length]; omega), List.take_of_length_le (by rw [wb_length]; omega)]
  have hrow : ((s.extract 0 136).extract 8 136).data.toList = List.replicate 128 0 := by
    have h1 : ((s.extract 0 136).extract 8 136).data.toList = (((s.extract 0 136).data.toList).drop 8).take 128 := by simp only [ByteArray.data_extract, Array.toList_extract, List.extract_eq_take_drop]
    rw [h1, hbody]; unfold frBody
    rw [← h2, List.drop_left, List.take_of_length_le (by simp)]
  have hw2 : wholeL 0 (wb (chk 1 (frBody p)) 2) = chk 1 (frBody p) := by rw [whole_two]; omega
  obtain ⟨q, hq⟩ : ∃ q : Int, q = p % 4294967296 := ⟨_, rfl⟩
  have hw4 : wholeL 0 (wb p 4) = q := by rw [whole_four, hq]
  have hwq := wrap32 hp hq
  have hcq : ∀ w, (convert 3 21 (.int .i64 q)).run Tryd.prog w = .ok (.int .i32 p) w := fun w => by
    rw [run_convert_int (k := .i64) (n := q) (hs := by rw [Tryd.underlying3]; rfl) (hd := Tryd.underlying21), show Tryd.prog.intKind 21 = .i32 from by kernel_rfl, hwq]
  clear hq
  have H := Lib.hid (And.intro hbody (And.intro htold (And.intro hpos (And.intro hrow (And.intro hw2 hw4)))))
  clear h hbody htold hpos hrow hw2 hw4
  have HBL := Lib.hid (And.intro hbl hck)
  clear hbl hck
  refine callsIn_wide.1 (callsIn_of_wp_marks (F := Fence.wide) (n := 5) Tryd.func21 rfl trivial (wpIn_wide.2 ?_) rfl)
  simp only [Tryd.ntmps21, List.size_toArray, List.length_cons, List.length_nil, Nat.reduceAdd, Nat.reduceSub, Array.replicate_succ, Array.replicate_zero, List.push_toArray, List.append_toArray, List.nil_append, List.cons_append]
  go_wp2_with (first
    | (go_at_call 30; refine (hasPre_any s _ hh _).mono ?_; rintro e w2 ⟨rfl, rfl⟩)
    | (go_at_call 28; refine (trWithin_any _ _ _ _).mono ?_; rintro e w2 ⟨rfl, rfl⟩)
    | (go_at_call 22; refine (frameSize_any _).mono ?_; rintro e w2 ⟨rfl, rfl⟩))
  go_quiet (fail)
  have hq := Below.refl ((w.alloc (.cells #[.int .i64 0, .int .i64 0, .slice none 0 0] 35)).alloc (.cells #[.int .i64 0] 28)).heap.size ((w.alloc (.cells #[.int .i64 0, .int .i64 0, .slice none 0 0] 35)).alloc (.cells #[.int .i64 0] 28))
  have br : Blk (((w.alloc (.cells #[.int .i64 0, .int .i64 0, .slice none 0 0] 35)).alloc (.cells #[.int .i64 0] 28)).drewN nq) w.heap.size 35 #[.int .i64 0, .int .i64 0, .slice none 0 0] := (Blk.new w 35 #[.int .i64 0, .int .i64 0, .slice none 0 0]).alloc (.cells #[.int .i64 0] 28)
  have be : Blk (((w.alloc (.cells #[.int .i64 0, .int .i64 0, .slice none 0 0] 35)).alloc (.cells #[.int .i64 0] 28)).drewN nq) (w.heap.size + 1) 28 #[.int .i64 0] := Blk.new' (w.alloc (.cells #[.int .i64 0, .int .i64 0, .slice none 0 0] 35)) 28 #[.int .i64 0] (g := w.heap.size + 1) (by simp)
  have hB : Below w.heap.size w (((w.alloc (.cells #[.int .i64 0, .int .i64 0, .slice none 0 0] 35)).alloc (.cells #[.int .i64 0] 28)).drewN nq) := below_drewN (((Below.refl _ _).alloc (Nat.le_refl _) _).alloc (by simp) _) nq
  have hsW : (((w.alloc (.cells #[.int .i64 0, .int .i64 0, .slice none 0 0] 35)).alloc (.cells #[.int .i64 0] 28)).drewN nq).heap.size = w.heap.size + 1 + 1 := by simp
  clear hq
  generalize (((w.alloc (.cells #[.int .i64 0, .int .i64 0, .slice none 0 0] 35)).alloc (.cells #[.int .i64 0] 28)).drewN nq) = W at br be hB hsW ⊢
  have HP : Hid ((decide (-(1000000000 : Int) ≤ p) && decide (p ≤ (1000000000 : Int))) = true) := Lib.hid (by rw [decide_eq_true hp.1, decide_eq_true hp.2]; rfl)
  have hcv := fun w => Lib.run_convert_string_bytes (P := Tryd.prog) w 9 67 5 ((s.extract 0 136).extract 8 136) Tryd.underlying9 Tryd.underlying67 Tryd.underlying5
  have x136 : (s.extract 0 136).size = 136 := by simp; omega
  go_wp2_with (first
    | (go_at_call 20; refine (check_any _ (by rw [x136]; omega) _).mono ?_; rintro e w1 ⟨rfl, rfl⟩; rw [H.out.1])
    | (go_at_call 31; refine (trWhole_any _ (by simp; omega) _).mono ?_; rintro e w2 ⟨rfl, hB2⟩; rw [H.out.2.1, H.out.2.2.2.2.1])
    | (go_at_call 31; refine (trWhole_any _ (by simp; omega) _).mono ?_; rintro e w3 ⟨rfl, hB3⟩; rw [H.out.2.2.1, H.out.2.2.2.2.2])
    | (go_at_call 17; refine (trSmall_any _ _ (by omega) _).mono ?_; rintro e w4 ⟨rfl, rfl⟩; rw [HP.out])
    | (go_at_call 32; refine (chunk_any _ _ _ _).mono ?_; rintro e w5 ⟨rfl, h5⟩; have H5 := Lib.hid h5; clear h5))
  obtain ⟨c, hc⟩ : ∃ c, grownCap (w3.alloc (.cells #[.int .i64 p, .int .i64 1, .slice none 0 0] 35)) 128 0 5 = c := ⟨_, rfl⟩
  have hcap : 2 * 64 ≤ c := by rw [← hc]; exact grownCap_ge _ _ _ _
  have hbz : (bytesWorld (w3.alloc (.cells #[.int .i64 p, .int .i64 1, .slice none 0 0] 35)) 5 ((s.extract 0 136).extract 8 136)).heap.size = w3.heap.size + 2 := by rw [bytesWorld_size]; simp
  obtain ⟨hB5, hs5, bf, hrow, hbs, hbn⟩ := pf_world H.out.2.2.2.1 H5.out
  rw [hc] at hbs
  rw [hc]
  simp only [hbz]
  clear hbz hc hcv H5
  have hBW : Below w.heap.size w w5 := hB.trans (((hB2.trans (hB3.mono (Below.size hB2))).trans (hB5.mono (by have := Below.size hB2; have := Below.size hB3; omega))).mono (by omega))
  have h15 : Gr w1 w5 := (hB2.trans (hB3.mono (Below.size hB2))).trans (hB5.mono (by have := Below.size hB2; have := Below.size hB3; omega))
  have br5 := br.below h15 br.lt
  have be5 := be.below h15 be.lt
  have hw3 : w.heap.size + 2 ≤ w3.heap.size := by have := Below.size hB2; have := Below.size hB3; omega
  clear br be hB hB2 hB3 hB5 h15 hsW
  obtain ⟨i0, hi, hz0, hz1, hz2⟩ := info_parts (infoF32)
  have hfi := fun w => run_convert_float_int (P := Tryd.prog) w 69 3 .f32 .i64 0 0 (by kernel_rfl) Tryd.underlying3 (by kernel_rfl)
  have hif : floatOfInt .f32 0 = 0 := by kernel_rfl
  refine wpIn_wide.1 (wpIn_rangeFunc_ownH (n := 5) rfl (by omega) (gf := 46) (lb := #[.pointer (some ⟨w3.heap.size + 2, 0, none⟩), .pointer (some ⟨w3.heap.size + 3, 0, none⟩)]) rfl trivial (enters_of Tryd.func46 (by kernel_rfl) rfl)
    (chunk_stops 4 (by omega) (w3.heap.size + 2) (w3.heap.size + 3) (w3.heap.size + 1) 0 64 c (by omega) hcap w5 hbs hbn) KN2.trans (fun W l o o' hl _ _ _ => ⟨World.putObj_heap_other (by omega), World.putObj_heap_other (by omega)⟩) (Below.refl _ _) (fun _ => rfl)
    (fun pre W => PfI w5 w3.heap.size p pre.length W)
    (fun _ _ _ => False)
    ?hI ?hIx ?h0
    (fun x a' W => a' = ⟨#[.string s, undef, .pointer (some ⟨w.heap.size, 0, none⟩), .pointer (some ⟨w.heap.size + 1, 0, none⟩), .int .i64 1, .string (s.extract 0 136), .string (s.extract 136 138), .pointer (some ⟨w3.heap.size, 0, none⟩), .slice (some ⟨w3.heap.size + 1, 2 * x.1, none⟩) 2 2, undef, .string s, .int .i64 138, .bool false, .bool false, .string s, .bool true, .bool false, .bool false, undef, .string s, .int .u8 1, .int .i64 1, .bool false, .string s, .int .u8 1, .bool false, undef, .bool false, .int .i64 1, .bool true, .bool false, undef, .bool false, .string s, .int .i64 138, .int .i64 1, .int .i64 138, .bool false, undef, .string s, .string s, .int .i64 138, .int .i64 136, .string (s.extract 0 136), .string s, .string s, .int .i64 138, .int .i64 136, .string (s.extract 136 138), .string (s.extract 0 136), .int .i64 (chk 1 (frBody p)), .string (s.extract 136 138), .int .i64 (chk 1 (frBody p)), .bool false, undef, .string (s.extract 0 136), .string ((s.extract 0 136).extract 4 8), .int .i64 q, .int .i32 p, .int .i64 p, .int .i64 1, .agg #[.int .i64 1, .slice none 0 0], .agg #[.int .i64 p, .int .i64 1, .slice none 0 0], .pointer (some ⟨w3.heap.size, 0, none⟩), .int .i64 p, .bool true, .bool false, undef, .string (s.extract 0 136), .string ((s.extract 0 136).extract 8 136), .slice (some ⟨w3.heap.size + 1, 0, none⟩) 128 c, .func (.func 46) #[] #[.pointer (some ⟨w3.heap.size + 2, 0, none⟩), .pointer (some ⟨w3.heap.size + 3, 0, none⟩)], .slice (some ⟨w3.heap.size + 1, 2 * x.1, none⟩) 2 2, undef, undef, undef, undef, undef, undef, undef, undef, undef, undef, undef, undef, undef, undef, undef, undef, undef, undef, undef], []⟩) ?hAx ?assign ?body ?done ?stop)
  case hI => exact fun pre X Y row h hg hr => h.kept (by omega) hg hr
  case hIx => exact fun _ _ _ _ _ h _ _ => h
  case h0 => exact ⟨_, bf, World.ownsRow_nil _ _ _ _, ⟨rfl, rfl, rfl, Nat.le_refl _, fun _ _ _ => rfl⟩⟩
  case hAx => exact fun x a' _ X Y row h _ _ => h
  case assign =>
    intro l pre x W K hIp hK
    dsimp only [List.zip_cons_cons]
    gi_wp2
    exact hK _ _ (KeepsFrom.refl _ _) (KN2.refl _ _ _) hIp rfl
  case body =>
    rintro l pre x a' W hl hrl ⟨v, h1, h2, h3⟩ rfl hN
    have hW5 := h3.size
    have lf := h1.lt
    have hx := x.2
    have hcx : ∀ j, j < 2 → W.cell? ⟨w3.heap.size + 1, 2 * x.1 + j, none⟩ = some (.int .u8 0) := fun j hj =>
      (h3.cell_far ⟨w3.heap.size + 1, 2 * x.1 + j, none⟩ (by simp only; omega) (fun e => by have := Option.some.inj e; simp only at this; omega)).trans (hrow _ (by omega))
    have hcb : (convert 67 9 (.slice (some ⟨w3.heap.size + 1, 2 * x.1, none⟩) 2 2)).run Tryd.prog W = .ok (.string (strB [0, 0])) W :=
      run_convert_bytes_back (P := Tryd.prog) W 67 9 5 ⟨w3.heap.size + 1, 2 * x.1, none⟩ 2 [0, 0] Tryd.underlying67 Tryd.underlying5 Tryd.underlying9 (fun j hj => by
        have hj2 : j < 2 := by simpa using hj
        have h4 := hcx j hj2
        have h5 : (([0, 0] : List UInt8)[j]).toNat = 0 := by
          match j, hj2 with
          | 0, _ => rfl
          | 1, _ => rfl
        have h6 : (⟨w3.heap.size + 1, 2 * x.1, none⟩ : Addr).add j = ⟨w3.heap.size + 1, 2 * x.1 + j, none⟩ := by
          match j, hj2 with
          | 0, _ => rfl
          | 1, _ => rfl
        rw [h5, h6]
        exact h4)
    have hw0 : wholeL 0 (strB [0, 0]).data.toList = 0 := by rfl
    have HP1 := Lib.hid (And.intro h1 (And.intro h2 h3))
    clear hcx h2 h3 h1
    gi_wp2_with fail
    refine ⟨trivial, ?_⟩
    gi_at_call 31
    refine (CallsIn.inRound l (callsIn_wide.2 (trWhole_any (strB [0, 0]) (by decide) W))).mono ?_
    rintro e W2 ⟨rfl, hW2⟩
    rw [hw0]
    clear hcb
    have h2 := own_gr HP1.out.2.1 hW2
    have h1 := HP1.out.1.below hW2 lf
    obtain ⟨r0, r1, r2, rf⟩ := blk3_ h1
    have lf2 := h1.lt
    have hz2' := Below.size hW2
    have HW2 := Lib.hid hW2
    have H2 := Lib.hid h2
    clear h1 h2 hW2
    gi_wp2_with fail
    refine ⟨trivial, ?_⟩
    gi_at_call 17
    refine (CallsIn.inRound l (callsIn_wide.2 (trSmall_any 0 2047 (by omega) W2))).mono ?_
    rintro e W3 ⟨rfl, hW3⟩
    obtain rfl := hW3
    gi_wp2_with (gi_at_builtin; refine wpListIn_append_own _ rfl _ _ 31 rfl w5.heap.size 69 i0 (.float .f32 0) 1 4 Tryd.underlying31 hi hz0 hz1 hz2 rfl (by decide) _ _ _ rfl (H2.out.alloc _) ⟨W3.heap.size, 0, none⟩ 1 1 [.float .f32 0] rfl rfl (cell_one_new _ _ _) (by simp [Value.oneCell']) (by unfold maxLen; omega) (by omega) (by simp; omega) ?_; intro v' Y hown hgrow _; obtain ⟨g', cap', rfl⟩ := ownsRow_succ hown; obtain ⟨bY, hI9, hk9, hn9⟩ := PfI.push (by omega) HP1.out.1 HP1.out.2.1 HP1.out.2.2 HW2.out hown hgrow; obtain ⟨q0, q1, q2, qf⟩ := blk3_ bY; have lq := bY.lt)
    exact ⟨hk9, ⟨hn9 _ (by omega) (by omega), hn9 _ (by omega) (by omega)⟩, by simpa using hI9⟩
  case done =>
    rintro D xs W hD rfl ⟨v, h1, h2, h3⟩ hdf
    obtain ⟨g', cap', rfl⟩ := Joins.ownsRow_form h2 (by simp)
    have hl : (List.finRange 64).length = 64 := List.length_finRange
    have brW := br5.grown h3 (fun e => by have := Option.some.inj e; omega)
    have beW := be5.grown h3 (fun e => by have := Option.some.inj e; omega)
    obtain ⟨r0, r1, r2, rf⟩ := blk3_ h1
    obtain ⟨t0, t1, t2, tf⟩ := blk3_ brW
    have e0 := beW.cell 0
    have ef := beW.frozen 0
    have lf := h1.lt
    have lr := brW.lt
    have le := beW.lt
    rw [hl] at *
    have HMC : Hid (Marks w.heap.size [D] W) := Lib.hid ((Marks.nil _ _).cons (fun _ h => by cases h) (Nat.zero_le _) (by omega) hdf)
    have hBf : Below w.heap.size w W := hBW.grown h3 (Below.size hBW) (fun r e => by have := Option.some.inj e; omega)
    have HBf := Lib.hid hBf
    have HR := Lib.hid (And.intro brW beW)
    clear hdf h2 hBf brW beW h3 h1
    dsimp only
    go_wp2_with fail
    have b3 : Blk (((W.setCell ⟨w.heap.size, 0, none⟩ (.int .i64 p)).setCell ⟨w.heap.size, 1, none⟩ (.int .i64 1)).setCell ⟨w.heap.size, 2, none⟩ (.slice (some ⟨g', 0, none⟩) 64 cap')) w.heap.size 35 #[.int .i64 p, .int .i64 1, .slice (some ⟨g', 0, none⟩) 64 cap'] := ((HR.out.1.set_ 0 (.int .i64 p)).set_ 1 (.int .i64 1)).set_ 2 (.slice (some ⟨g', 0, none⟩) 64 cap')
    have e3 : Blk (((W.setCell ⟨w.heap.size, 0, none⟩ (.int .i64 p)).setCell ⟨w.heap.size, 1, none⟩ (.int .i64 1)).setCell ⟨w.heap.size, 2, none⟩ (.slice (some ⟨g', 0, none⟩) 64 cap')) (w.heap.size + 1) 28 #[.int .i64 0] := ((HR.out.2.far (by simp only; omega) _).far (by simp only; omega) _).far (by simp only; omega) _
    have b4 := b3.far (p := ⟨w.heap.size + 1, 0, none⟩) (by simp only; omega) (.int .i64 0)
    have e4 : Blk ((((W.setCell ⟨w.heap.size, 0, none⟩ (.int .i64 p)).setCell ⟨w.heap.size, 1, none⟩ (.int .i64 1)).setCell ⟨w.heap.size, 2, none⟩ (.slice (some ⟨g', 0, none⟩) 64 cap')).setCell ⟨w.heap.size + 1, 0, none⟩ (.int .i64 0)) (w.heap.size + 1) 28 #[.int .i64 0] := e3.set_ 0 (.int .i64 0)
    have hBB : Below w.heap.size w ((((W.setCell ⟨w.heap.size, 0, none⟩ (.int .i64 p)).setCell ⟨w.heap.size, 1, none⟩ (.int .i64 1)).setCell ⟨w.heap.size, 2, none⟩ (.slice (some ⟨g', 0, none⟩) 64 cap')).setCell ⟨w.heap.size + 1, 0, none⟩ (.int .i64 0)) := (((HBf.out.setCell (by simp) _).setCell (by simp) _).setCell (by simp) _).setCell (by simp) _
    refine ret_marks (n₀ := w.heap.size) (Ds := [D]) ((((HMC.out.setCell HR.out.1 _).setCell (HR.out.1.set_ 0 (.int .i64 p)) _).setCell ((HR.out.1.set_ 0 (.int .i64 p)).set_ 1 (.int .i64 1)) _).setCell e3 _) fun w' hs => ⟨.tuple #[.agg #[.int .i64 p, .int .i64 1, .slice (some ⟨g', 0, none⟩) 64 cap'], .int .i64 0], ?_, ⟨_, _, rfl⟩, hBB.trans hs.below⟩
    obtain ⟨u0, u1, u2, uf⟩ := blk3_ (hs.blk b4)
    have u3 := (hs.blk e4).cell 0
    simp at u3
    simp [results, Tryd.results21, go_sem, u0, u1, u2, u3]
  case stop =>
    rintro D c pre W hD hpre h hdf
    exact h.elim
end Go.Proofs.YtfgeipapmdhneaaDoor
