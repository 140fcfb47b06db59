/- Contract of the law CoverMirrors: true. -/
import Derived.Test.YtfbnpfhnffahdaaGreatDoorCxM2
import Derived.Test.YtfbnpfhnffahdaaGreatDoorCwI
namespace Go.Proofs.YtfbnpfhnffahdaaGreatDoor
open Go.RowKit

theorem plOk_each {j : Jo} (h : (jointE j).2 = 0) : ∀ p ∈ j.fs, plOk p.2 j.thick := by
  intro p hp
  obtain ⟨k, hk, rfl⟩ := List.mem_iff_getElem.1 hp
  exact plOk_of h hk
theorem Su.wf.mirror {s : Su} (h : s.wf) (h1 : -20000 ≤ s.at_ ∧ s.at_ ≤ 20000) (h2 : -1 ≤ s.side ∧ s.side ≤ 1) : s.mirror.wf :=
  ⟨⟨by simp only [Su.mirror]; omega, by simp only [Su.mirror]; omega⟩, ⟨by simp only [Su.mirror]; omega, by simp only [Su.mirror]; omega⟩, h.legs, h.ln, h.ld, h.mn, h.md, h.tn, h.td⟩
theorem Su.wf.move {s : Su} {by_ : Int} (h : s.wf) (h1 : -20000 ≤ s.at_ ∧ s.at_ ≤ 20000) (h2 : -1000 ≤ by_ ∧ by_ ≤ 1000) : (s.move by_).wf :=
  ⟨⟨by simp only [Su.move]; omega, by simp only [Su.move]; omega⟩, h.side, h.legs, h.ln, h.ld, h.mn, h.md, h.tn, h.td⟩
theorem mixF_names' {f : Fc → Fc} {fs : List (ByteArray × Fc)} {k : Nat} {N : Nat} (h : ∀ p ∈ fs, p.1.size ≤ N) : ∀ p ∈ mixF f fs k, p.1.size ≤ N := by
  intro p hp
  have : p.1 ∈ (mixF f fs k).map (·.1) := List.mem_map_of_mem hp
  rw [← mixF_names] at this
  obtain ⟨q, hq, e⟩ := List.mem_map.1 this
  rw [← e]
  exact h q hq

set_option maxRecDepth 100000 in
set_option maxHeartbeats 8000000 in
theorem coverMirrors_any (j : Jo) (A : Option Addr) (c B : Nat) (face : Int) (sn : ByteArray) (s : Su) (by_ : Int) (w : World) (hn : j.fs.length ≤ c) (hc : c ≤ 9223372036854775807) (hR : Row w B 5 A j.fs.length (fcsC j.fs)) (hB : B ≤ w.heap.size) (hA : A = none → c = 0) (hw : s.wf) (hby : I64 by_) (hE : Ends w) :
    Calls Tryz.prog 4 #[.agg (joC j A c), .agg (asC face sn s), .int .i64 by_] w fun e w' => e = .returned (.bool true) ∧ Below w.heap.size w w' := by
  have hBB : Below w.heap.size w ((w.alloc (.cells (joC j A c) 24)).alloc (.cells (asC face sn s) 46)) := (((Below.refl _ _).alloc (Nat.le_refl _) _).alloc (by simp) _)
  have HE : Hid (∀ W, Below w.heap.size w W → Ends W) := Lib.hid fun W h => hE.below h
  clear hE
  have HA := Lib.hid hA; clear hA
  have b := (Blk.new w 24 (joC j A c)).alloc (.cells (asC face sn s) 46 (0, 0))
  have y := Blk.new' (w.alloc (.cells (joC j A c) 24)) 46 (asC face sn s) (g := w.heap.size + 1) (by simp)
  unfold joC asC at *
  go_enter Tryz.func4, Tryz.ntmps4
  have l_b := b.lt
  obtain ⟨t0, t1, t2, t3⟩ := jo_cells b
  have l_y := y.lt
  obtain ⟨u0, u1, u2, u3, u4, u5, u6, u7, u8, u9, u10⟩ := as_cells y
  go_wp2_with fail
  refine (awake_any _ (HE.out _ hBB)).mono ?_
  rintro e wc1 ⟨rfl, hBc1⟩
  replace b := b.gr hBc1
  replace y := y.gr hBc1
  replace hBB := hBB.trans (Below.mono hBc1 (Below.size hBB))
  clear hBc1
  clear l_b t0 t1 t2 t3 l_y u0 u1 u2 u3 u4 u5 u6 u7 u8 u9 u10
  have l_b := b.lt
  have l_y := y.lt
  obtain ⟨t0, t1, t2, t3⟩ := jo_cells b
  obtain ⟨u0, u1, u2, u3, u4, u5, u6, u7, u8, u9, u10⟩ := as_cells y
  cases hf : fewB j
  case false =>
    go_wp2_with fail
    refine (few_any j A c B _ (hR.below hBB hB) (Nat.le_trans hB (Below.size hBB))).mono ?_
    rw [hf]
    rintro e wc2 ⟨rfl, hBc2⟩
    replace b := b.gr hBc2
    replace y := y.gr hBc2
    replace hBB := hBB.trans (Below.mono hBc2 (Below.size hBB))
    clear hBc2
    clear l_b t0 t1 t2 t3 l_y u0 u1 u2 u3 u4 u5 u6 u7 u8 u9 u10
    have l_b := b.lt
    have l_y := y.lt
    obtain ⟨t0, t1, t2, t3⟩ := jo_cells b
    obtain ⟨u0, u1, u2, u3, u4, u5, u6, u7, u8, u9, u10⟩ := as_cells y
    go_wp2
    go_ret
    exact ⟨rfl, hBB⟩
  go_wp2_with fail
  refine (few_any j A c B _ (hR.below hBB hB) (Nat.le_trans hB (Below.size hBB))).mono ?_
  rw [hf]
  rintro e wc3 ⟨rfl, hBc3⟩
  replace b := b.gr hBc3
  replace y := y.gr hBc3
  replace hBB := hBB.trans (Below.mono hBc3 (Below.size hBB))
  clear hBc3
  clear l_b t0 t1 t2 t3 l_y u0 u1 u2 u3 u4 u5 u6 u7 u8 u9 u10
  have l_b := b.lt
  have l_y := y.lt
  obtain ⟨t0, t1, t2, t3⟩ := jo_cells b
  obtain ⟨u0, u1, u2, u3, u4, u5, u6, u7, u8, u9, u10⟩ := as_cells y
  by_cases q : 20 < sn.size
  · have q1 : (20 : Int) < (sn.size : Int) := by omega
    go_wp2
    go_ret
    exact ⟨rfl, hBB⟩
  have q1 : (sn.size : Int) ≤ 20 := by omega
  obtain ⟨f1, f2, f3⟩ := fewB_all hf
  have HJ : Hid (∀ W, Below w.heap.size w W → JoOk j A c B W) := Lib.hid fun W h => JoOk.mk_ f3 f2 hn hc (hR.below h hB) (Nat.le_trans hB (Below.size h))
  have hns : sn.size ≤ 1000000000000 := by omega
  have HFs : Hid (∀ p ∈ j.fs, p.1.size ≤ 1000000000000) := Lib.hid fun p hp => by have := f3 p hp; omega
  have hnm : j.nm.size ≤ 1000000000000 := by omega
  clear f2 f3 hf hR
  go_wp2_with fail
  refine (askErr_any j face sn s A c B _ (HJ.out _ hBB) (by omega) hns hw).mono ?_
  rintro e wc4 ⟨rfl, hBc4⟩
  replace b := b.gr hBc4
  replace y := y.gr hBc4
  replace hBB := hBB.trans (Below.mono hBc4 (Below.size hBB))
  clear hBc4
  clear l_b t0 t1 t2 t3 l_y u0 u1 u2 u3 u4 u5 u6 u7 u8 u9 u10
  have l_b := b.lt
  have l_y := y.lt
  obtain ⟨t0, t1, t2, t3⟩ := jo_cells b
  obtain ⟨u0, u1, u2, u3, u4, u5, u6, u7, u8, u9, u10⟩ := as_cells y
  by_cases h0 : askE j face sn s = 0
  case neg =>
    have h1 : (askE j face sn s != 0) = true := by simpa using h0
    go_wp2
    go_ret
    exact ⟨rfl, hBB⟩
  have h1 : (askE j face sn s != 0) = false := by simpa using h0
  cases hwi : wi by_ (-1000) 1000
  case false =>
    have HW := Lib.hid hwi; clear hwi
    go_wp2_with fail
    refine (bWithin_any by_ (-1000) 1000 _).mono ?_
    rw [HW.out]
    rintro e wq ⟨rfl, rfl⟩
    go_wp2
    go_ret
    exact ⟨rfl, hBB⟩
  have hby' : -1000 ≤ by_ ∧ by_ ≤ 1000 := by simpa [wi] using hwi
  have HW := Lib.hid hwi; clear hwi
  go_wp2_with fail
  refine (bWithin_any by_ (-1000) 1000 _).mono ?_
  rw [HW.out]
  rintro e wq ⟨rfl, rfl⟩
  clear h1
  obtain ⟨hO, hSz⟩ := askE_zero h0
  obtain ⟨hat1, hat2, hsd, _⟩ := setupE_zero hSz
  clear hSz
  obtain ⟨hj3, k, rfl, hk, _⟩ := openFaceE_zero hO
  clear hO
  have hpl := Lib.hid (plOk_each hj3)
  obtain ⟨ht1, ht2, _, _, hlen, _⟩ := jointE_zero hj3
  have hsd' : -1 ≤ s.side ∧ s.side ≤ 1 := by omega
  have HPE := partOfR_e h0
  have HM := Lib.hid (mirror_part h0)
  have HT := Lib.hid (turn_part hk h0)
  have HV := Lib.hid (fun h' => move_part (by_ := by_) hk h0 h')
  obtain ⟨r, HP⟩ : ∃ r, Hid (partOfR j k sn s = r) := ⟨_, Lib.hid rfl⟩
  rw [HP.out] at HM HT HV HPE
  replace HPE := Lib.hid HPE
  clear hj3
  have hwm := hw.mirror ⟨hat1, hat2⟩ hsd'
  have hwv := hw.move ⟨hat1, hat2⟩ hby'
  go_upto_region 5 with fail
  refine partReg5 j A c B k sn s r _ (HJ.out _ hBB) HA.out (by omega) (HE.out _ hBB) hns hw HP.out _ _ b y _ _ ?_
  intro p7 _ _ _ _ _ _ _ w5 z hp7 hB5
  replace b := b.gr hB5
  replace y := y.gr hB5
  have hp7' := Nat.le_trans (Below.size hBB) hp7
  replace hBB := hBB.trans (Below.mono hB5 (Below.size hBB))
  clear l_b t0 t1 t2 t3 l_y u0 u1 u2 u3 u4 u5 u6 u7 u8 u9 u10
  go_upto_region 6 with fail
  refine copyReg6 j A c B k sn s _ (HJ.out _ hBB) HA.out (by omega) (by omega) _ _ b y _ _ ?_
  intro p9 q10 g9 c9 _ _ _ w6 M hB6
  have hyq : w.heap.size + 1 ≠ q10 := by have := y.lt; have := M.q; omega
  replace b := b.gr hB6
  replace y := y.gr hB6
  replace z := z.gr hB6
  have hq10 := Nat.le_trans (Below.size hBB) M.q
  have hg9 := Nat.le_trans (Below.size hBB) M.g
  replace hBB := hBB.trans (Below.mono hB6 (Below.size hBB))
  go_upto_region 7 with fail
  refine askReg7 M ⟨hat1, hat2⟩ hsd' _ y hyq _ _ ?_
  intro _ _ _ _ _ _ _ _ _ _ _ _ w7 M7 hG7
  replace b := b.grown hG7 (by have := b.ne_ M.ask (by decide); simpa using this)
  replace y := y.grown hG7 (by simpa using hyq)
  replace z := z.grown hG7 (by have := z.ne_ M.ask (by decide); simpa using this)
  replace hBB := below_only hBB hG7 (Below.size hBB) hq10
  clear M hG7 hyq
  go_upto_region 8 with fail
  refine copyReg8 j A c B k sn s _ (HJ.out _ hBB) HA.out (by omega) (by omega) _ _ b y _ _ ?_
  intro p11 q12 g11 c11 _ _ _ w8 N hB8
  have hq12 := Nat.le_trans (Below.size hBB) N.q
  have hg11 := Nat.le_trans (Below.size hBB) N.g
  have hqq : q10 ≠ q12 := by have := M7.ask.lt; have := N.q; omega
  have hgg : g9 ≠ g11 := by obtain ⟨cs, h3, _⟩ := M7.faces; have := h3.lt; have := N.g; omega
  have hyq : w.heap.size + 1 ≠ q12 := by have := y.lt; have := N.q; omega
  replace b := b.gr hB8
  replace y := y.gr hB8
  replace z := z.gr hB8
  replace M7 := M7.gr hB8
  replace hBB := hBB.trans (Below.mono hB8 (Below.size hBB))
  clear hB5 hB6 hB8 hp7
  have lq := N.ask.lt
  have nf := N.ask.frozen
  have na := N.ask
  unfold asC at na
  obtain ⟨_, _, x2, _, _, _, _, _, _, _, _⟩ := as_cells na
  clear na
  have l_b := b.lt
  have l_y := y.lt
  obtain ⟨t0, t1, t2, t3⟩ := jo_cells b
  obtain ⟨u0, u1, u2, u3, u4, u5, u6, u7, u8, u9, u10⟩ := as_cells y
  go_wp2_with fail
  have N9 := N.setAt (s.at_ + by_)
  have M9 := M7.farAsk N.ask hqq 2 (.int .i64 (s.at_ + by_))
  replace b := b.far (p := ⟨q12, 2, none⟩) (b.ne_ N.ask (by decide)) (.int .i64 (s.at_ + by_))
  replace z := z.far (p := ⟨q12, 2, none⟩) (z.ne_ N.ask (by decide)) (.int .i64 (s.at_ + by_))
  replace y := y.far (p := ⟨q12, 2, none⟩) hyq (.int .i64 (s.at_ + by_))
  replace hBB := hBB.setCell (p := ⟨q12, 2, none⟩) hq12 (.int .i64 (s.at_ + by_))
  have e0 := mixF_zero Fc.mirror j.fs
  have e1 := mixF_zero (fun f => f.move by_) j.fs
  rw [← e0] at M9
  rw [← e1] at N9
  have M9' := M9
  have N9' := N9
  clear M9 N9 e0 e1 M7 N lq nf x2
  clear l_b t0 t1 t2 t3 l_y u0 u1 u2 u3 u4 u5 u6 u7 u8 u9 u10
  obtain ⟨base1, hb1⟩ : ∃ n, n = w5.heap.size := ⟨_, rfl⟩
  obtain ⟨base2, hb2⟩ : ∃ n, n = w7.heap.size := ⟨_, rfl⟩
  rw [← hb1] at M9'
  rw [← hb2] at N9'
  go_loopw [13] (fun i wr => ∃ kk : Nat, kk ≤ j.fs.length ∧ i = .int .i64 kk ∧ Made wr base1 j k sn s.mirror p9 q10 g9 c9 (mixF Fc.mirror j.fs kk) ∧ Made wr base2 j k sn (s.move by_) p11 q12 g11 c11 (mixF (fun f => f.move by_) j.fs kk) ∧ Blk wr w.heap.size 24 #[.string j.nm, .int .i64 j.thick, .int .i64 j.zone, .slice A j.fs.length c] ∧ Blk wr (w.heap.size + 1) 46 (asC k sn s) ∧ Blk wr p7 51 #[.int .i64 r.a, .int .i64 r.b, .int .i64 r.c, .int .i64 r.d] ∧ Below w.heap.size w wr) (fun i _ => j.fs.length - (intOf i).toNat)
  case atStart => exact ⟨0, Nat.zero_le _, rfl, M9', N9', b, y, z, hBB⟩
  case round =>
    clear M9' N9' b y z hBB
    obtain ⟨kk, hkk, rfl, M, N, b, y, z, hBB⟩ := hrel
    by_cases hlt : kk < j.fs.length
    · obtain ⟨t0, t1, t2, t3⟩ := blk4c M.joint
      have lp := M.joint.lt
      have hkc : (kk : Int) < (j.fs.length : Int) := by omega
      go_upto_region 13 with fail
      obtain ⟨x1, x2, x3, x4, _, _, _, _, _⟩ := hpl.out _ (List.getElem_mem hlt)
      have gm := mixF_get Fc.mirror j.fs kk hlt
      have gn := mixF_get (fun f => f.move by_) j.fs kk hlt
      obtain ⟨csM, hcM, _⟩ := M.faces
      obtain ⟨csN, hcN, _⟩ := N.faces
      refine storeReg13 M kk (by rw [mixF_length]; exact hlt) (by rw [gm]; exact ⟨x1, x2⟩) (by rw [gm]; exact ⟨x3, x4⟩) _ _ ?_
      intro _ _ _ _ _ _ _ _ _ _ _ _ _ _ _ _ _ _ _ _ _ _ _ _ _ _ _ _ w1 M1 hG1
      rw [gm, mixF_step] at M1
      replace N := N.grown hcM hgg.symm hG1
      replace b := b.grown hG1 (by have := b.ne_ hcM (by decide); simpa using this)
      replace y := y.grown hG1 (by have := y.ne_ hcM (by decide); simpa using this)
      replace z := z.grown hG1 (by have := z.ne_ hcM (by decide); simpa using this)
      replace hcN := hcN.grown hG1 (by simpa using hgg.symm)
      replace hBB := below_only hBB hG1 (Below.size hBB) hg9
      clear hG1 hcM M t0 t1 t2 t3 lp
      go_upto_region 14 with fail
      refine storeReg14 N kk (by rw [mixF_length]; exact hlt) (by rw [gn]; exact ⟨x1, x2⟩) (by rw [gn]; exact ⟨x3, x4⟩) by_ hby' _ ?_
      intro _ _ _ _ _ _ _ _ _ _ _ _ _ _ _ _ _ _ _ _ _ _ _ _ _ _ _ _ _ _ w2 N1 hG2
      rw [gn, mixF_step (fun f => f.move by_)] at N1
      replace M1 := M1.grown hcN hgg hG2
      replace b := b.grown hG2 (by have := b.ne_ hcN (by decide); simpa using this)
      replace y := y.grown hG2 (by have := y.ne_ hcN (by decide); simpa using this)
      replace z := z.grown hG2 (by have := z.ne_ hcN (by decide); simpa using this)
      replace hBB := below_only hBB hG2 (Below.size hBB) hg11
      clear hG2 hcN N
      go_wp2_with fail
      refine ⟨⟨kk + 1, by omega, by go_num, M1, N1, b, y, z, hBB⟩, by simp [intOf]; omega⟩
    · obtain rfl : kk = j.fs.length := by omega
      rw [mixF_all] at M N
      have hjm := M.jo hnm (by intro p hp; simp only [List.mem_map] at hp; obtain ⟨q, hq, rfl⟩ := hp; exact HFs.out q hq)
      have hjn := N.jo hnm (by intro p hp; simp only [List.mem_map] at hp; obtain ⟨q, hq, rfl⟩ := hp; exact HFs.out q hq)
      have eM : (j.withFs (List.map (fun p => (p.1, p.2.mirror)) j.fs)).fs.length = j.fs.length := by simp [Jo.withFs]
      have eN : (j.withFs (List.map (fun p => (p.1, p.2.move by_)) j.fs)).fs.length = j.fs.length := by simp [Jo.withFs]
      have hPm := Lib.hid (partOf_any (j.withFs (List.map (fun p => (p.1, p.2.mirror)) j.fs)) k sn s.mirror (some ⟨g9, 0, none⟩) c9 _ _ hjm (HE.out _ hBB) hns hwm)
      rw [HM.out] at hPm
      unfold joC asC prC at hPm
      rw [eM] at hPm
      have mj := M.joint
      have ma := M.ask
      unfold asC at ma
      have l_b := b.lt
      obtain ⟨d0, d1, d2, d3⟩ := blk4c b
      have l_y := y.lt
      obtain ⟨u0, u1, u2, u3, u4, u5, u6, u7, u8, u9, u10⟩ := as_cells y
      have l_z := z.lt
      obtain ⟨v0, v1, v2, v3⟩ := blk4c z
      have l_mj := mj.lt
      obtain ⟨m0, m1, m2, m3⟩ := blk4c mj
      have l_ma := ma.lt
      obtain ⟨n0, n1, n2, n3, n4, n5, n6, n7, n8, n9, n10⟩ := as_cells ma
      have nj := N.joint
      have na := N.ask
      unfold asC at na
      have l_nj := nj.lt
      obtain ⟨m4, m5, m6, m7⟩ := blk4c nj
      have l_na := na.lt
      obtain ⟨o0, o1, o2, o3, o4, o5, o6, o7, o8, o9, o10⟩ := as_cells na
      go_wp2_with fail
      refine (hPm.out).mono ?_
      rintro e wc5 ⟨rfl, hBc5⟩
      replace b := b.gr hBc5
      replace y := y.gr hBc5
      replace z := z.gr hBc5
      replace mj := mj.gr hBc5
      replace ma := ma.gr hBc5
      replace nj := nj.gr hBc5
      replace na := na.gr hBc5
      replace hjn := hjn.below hBc5 hjn.base
      replace hBB := hBB.trans (Below.mono hBc5 (Below.size hBB))
      clear hBc5
      clear l_b d0 d1 d2 d3 l_y u0 u1 u2 u3 u4 u5 u6 u7 u8 u9 u10 l_z v0 v1 v2 v3 l_mj m0 m1 m2 m3 l_ma n0 n1 n2 n3 n4 n5 n6 n7 n8 n9 n10 l_nj m4 m5 m6 m7 l_na o0 o1 o2 o3 o4 o5 o6 o7 o8 o9 o10
      have l_b := b.lt
      have l_y := y.lt
      have l_z := z.lt
      have l_mj := mj.lt
      have l_ma := ma.lt
      have l_nj := nj.lt
      have l_na := na.lt
      obtain ⟨d0, d1, d2, d3⟩ := blk4c b
      obtain ⟨u0, u1, u2, u3, u4, u5, u6, u7, u8, u9, u10⟩ := as_cells y
      obtain ⟨v0, v1, v2, v3⟩ := blk4c z
      obtain ⟨m0, m1, m2, m3⟩ := blk4c mj
      obtain ⟨n0, n1, n2, n3, n4, n5, n6, n7, n8, n9, n10⟩ := as_cells ma
      obtain ⟨m4, m5, m6, m7⟩ := blk4c nj
      obtain ⟨o0, o1, o2, o3, o4, o5, o6, o7, o8, o9, o10⟩ := as_cells na
      clear hPm
      have z14 := Blk.new wc5 51 #[.int .i64 r.a, .int .i64 r.b, .int .i64 r.c, .int .i64 r.d]
      replace b := b.alloc (.cells #[.int .i64 r.a, .int .i64 r.b, .int .i64 r.c, .int .i64 r.d] 51 (0, 0))
      replace y := y.alloc (.cells #[.int .i64 r.a, .int .i64 r.b, .int .i64 r.c, .int .i64 r.d] 51 (0, 0))
      replace z := z.alloc (.cells #[.int .i64 r.a, .int .i64 r.b, .int .i64 r.c, .int .i64 r.d] 51 (0, 0))
      replace mj := mj.alloc (.cells #[.int .i64 r.a, .int .i64 r.b, .int .i64 r.c, .int .i64 r.d] 51 (0, 0))
      replace ma := ma.alloc (.cells #[.int .i64 r.a, .int .i64 r.b, .int .i64 r.c, .int .i64 r.d] 51 (0, 0))
      replace nj := nj.alloc (.cells #[.int .i64 r.a, .int .i64 r.b, .int .i64 r.c, .int .i64 r.d] 51 (0, 0))
      replace na := na.alloc (.cells #[.int .i64 r.a, .int .i64 r.b, .int .i64 r.c, .int .i64 r.d] 51 (0, 0))
      replace hjn := hjn.below ((Below.refl _ _).alloc (Nat.le_refl _) (.cells #[.int .i64 r.a, .int .i64 r.b, .int .i64 r.c, .int .i64 r.d] 51 (0, 0))) hjn.base
      replace hBB := hBB.alloc (Below.size hBB) (.cells #[.int .i64 r.a, .int .i64 r.b, .int .i64 r.c, .int .i64 r.d] 51 (0, 0))
      clear l_b d0 d1 d2 d3 l_y u0 u1 u2 u3 u4 u5 u6 u7 u8 u9 u10 l_z v0 v1 v2 v3 l_mj m0 m1 m2 m3 l_ma n0 n1 n2 n3 n4 n5 n6 n7 n8 n9 n10 l_nj m4 m5 m6 m7 l_na o0 o1 o2 o3 o4 o5 o6 o7 o8 o9 o10
      have l_b := b.lt
      have l_y := y.lt
      have l_z := z.lt
      have l_mj := mj.lt
      have l_ma := ma.lt
      have l_nj := nj.lt
      have l_na := na.lt
      have l_z14 := z14.lt
      obtain ⟨d0, d1, d2, d3⟩ := blk4c b
      obtain ⟨u0, u1, u2, u3, u4, u5, u6, u7, u8, u9, u10⟩ := as_cells y
      obtain ⟨v0, v1, v2, v3⟩ := blk4c z
      obtain ⟨m0, m1, m2, m3⟩ := blk4c mj
      obtain ⟨n0, n1, n2, n3, n4, n5, n6, n7, n8, n9, n10⟩ := as_cells ma
      obtain ⟨m4, m5, m6, m7⟩ := blk4c nj
      obtain ⟨o0, o1, o2, o3, o4, o5, o6, o7, o8, o9, o10⟩ := as_cells na
      obtain ⟨q0, q1, q2, q3⟩ := blk4c z14
      go_wp2_with fail
      generalize (wc5.alloc (.cells #[.int .i64 r.a, .int .i64 r.b, .int .i64 r.c, .int .i64 r.d] 51)) = wz at *
      have hAn := Lib.hid (askErr_any (j.withFs (List.map (fun p => (p.1, p.2.move by_)) j.fs)) k sn (s.move by_) (some ⟨g11, 0, none⟩) c11 _ _ hjn (by rw [eN]; omega) hns hwv)
      unfold joC asC at hAn
      rw [eN] at hAn
      refine hAn.out.mono ?_
      rintro e wa ⟨rfl, hBa⟩
      replace b := b.gr hBa
      replace y := y.gr hBa
      replace z := z.gr hBa
      replace nj := nj.gr hBa
      replace na := na.gr hBa
      replace hjn := hjn.below hBa hjn.base
      replace hBB := hBB.trans (Below.mono hBa (Below.size hBB))
      clear hBa hAn
      go_upto_if 158 with fail
      clear l_b d0 d1 d2 d3 l_y u0 u1 u2 u3 u4 u5 u6 u7 u8 u9 u10 l_z v0 v1 v2 v3 l_nj m4 m5 m6 m7 l_na o0 o1 o2 o3 o4 o5 o6 o7 o8 o9 o10
      go_cut [6] (fun s6 wx => s6 = .bool false ∧ Below w.heap.size w wx ∧ Below wa.heap.size wa wx)
      case first =>
        have l_b := b.lt
        have l_y := y.lt
        have l_z := z.lt
        have l_nj := nj.lt
        have l_na := na.lt
        obtain ⟨d0, d1, d2, d3⟩ := blk4c b
        obtain ⟨u0, u1, u2, u3, u4, u5, u6, u7, u8, u9, u10⟩ := as_cells y
        obtain ⟨v0, v1, v2, v3⟩ := blk4c z
        obtain ⟨m4, m5, m6, m7⟩ := blk4c nj
        obtain ⟨o0, o1, o2, o3, o4, o5, o6, o7, o8, o9, o10⟩ := as_cells na
        by_cases hnz : askE (j.withFs (List.map (fun p => (p.1, p.2.move by_)) j.fs)) k sn (s.move by_) = 0
        · have e1 : (askE (j.withFs (List.map (fun p => (p.1, p.2.move by_)) j.fs)) k sn (s.move by_) == 0) = true := by simpa using hnz
          have hPn := Lib.hid (partOf_any (j.withFs (List.map (fun p => (p.1, p.2.move by_)) j.fs)) k sn (s.move by_) (some ⟨g11, 0, none⟩) c11 _ _ hjn (HE.out _ hBB) hns hwv)
          rw [HV.out hnz] at hPn
          unfold joC asC prC at hPn
          rw [eN] at hPn
          go_wp2_with fail
          refine (hPn.out).mono ?_
          rintro e wc6 ⟨rfl, hBc6⟩
          replace b := b.gr hBc6
          replace y := y.gr hBc6
          replace z := z.gr hBc6
          replace nj := nj.gr hBc6
          replace na := na.gr hBc6
          replace hjn := hjn.below hBc6 hjn.base
          have hBk := hBc6
          replace hBB := hBB.trans (Below.mono hBc6 (Below.size hBB))
          clear hBc6
          clear l_b d0 d1 d2 d3 l_y u0 u1 u2 u3 u4 u5 u6 u7 u8 u9 u10 l_z v0 v1 v2 v3 l_nj m4 m5 m6 m7 l_na o0 o1 o2 o3 o4 o5 o6 o7 o8 o9 o10
          have l_b := b.lt
          have l_y := y.lt
          have l_z := z.lt
          have l_nj := nj.lt
          have l_na := na.lt
          obtain ⟨d0, d1, d2, d3⟩ := blk4c b
          obtain ⟨u0, u1, u2, u3, u4, u5, u6, u7, u8, u9, u10⟩ := as_cells y
          obtain ⟨v0, v1, v2, v3⟩ := blk4c z
          obtain ⟨m4, m5, m6, m7⟩ := blk4c nj
          obtain ⟨o0, o1, o2, o3, o4, o5, o6, o7, o8, o9, o10⟩ := as_cells na
          clear hPn
          have hBk2 := hBk.alloc (Nat.le_trans (Nat.le_refl _) (Below.size hBk)) (.cells #[.int .i64 r.a, .int .i64 r.b, .int .i64 r.c, .int .i64 r.d] 51 (0, 0))
          have z16 := Blk.new wc6 51 #[.int .i64 r.a, .int .i64 r.b, .int .i64 r.c, .int .i64 r.d]
          replace b := b.alloc (.cells #[.int .i64 r.a, .int .i64 r.b, .int .i64 r.c, .int .i64 r.d] 51 (0, 0))
          replace y := y.alloc (.cells #[.int .i64 r.a, .int .i64 r.b, .int .i64 r.c, .int .i64 r.d] 51 (0, 0))
          replace z := z.alloc (.cells #[.int .i64 r.a, .int .i64 r.b, .int .i64 r.c, .int .i64 r.d] 51 (0, 0))
          replace nj := nj.alloc (.cells #[.int .i64 r.a, .int .i64 r.b, .int .i64 r.c, .int .i64 r.d] 51 (0, 0))
          replace na := na.alloc (.cells #[.int .i64 r.a, .int .i64 r.b, .int .i64 r.c, .int .i64 r.d] 51 (0, 0))
          replace hjn := hjn.below ((Below.refl _ _).alloc (Nat.le_refl _) (.cells #[.int .i64 r.a, .int .i64 r.b, .int .i64 r.c, .int .i64 r.d] 51 (0, 0))) hjn.base
          replace hBB := hBB.alloc (Below.size hBB) (.cells #[.int .i64 r.a, .int .i64 r.b, .int .i64 r.c, .int .i64 r.d] 51 (0, 0))
          clear l_b d0 d1 d2 d3 l_y u0 u1 u2 u3 u4 u5 u6 u7 u8 u9 u10 l_z v0 v1 v2 v3 l_nj m4 m5 m6 m7 l_na o0 o1 o2 o3 o4 o5 o6 o7 o8 o9 o10
          have l_b := b.lt
          have l_y := y.lt
          have l_z := z.lt
          have l_nj := nj.lt
          have l_na := na.lt
          have l_z16 := z16.lt
          obtain ⟨d0, d1, d2, d3⟩ := blk4c b
          obtain ⟨u0, u1, u2, u3, u4, u5, u6, u7, u8, u9, u10⟩ := as_cells y
          obtain ⟨v0, v1, v2, v3⟩ := blk4c z
          obtain ⟨m4, m5, m6, m7⟩ := blk4c nj
          obtain ⟨o0, o1, o2, o3, o4, o5, o6, o7, o8, o9, o10⟩ := as_cells na
          obtain ⟨q0, q1, q2, q3⟩ := blk4c z16
          go_wp2
          go_meet
          exact ⟨rfl, hBB, hBk2⟩
        · have e1 : (askE (j.withFs (List.map (fun p => (p.1, p.2.move by_)) j.fs)) k sn (s.move by_) == 0) = false := by simpa using hnz
          go_wp2
          go_meet
          exact ⟨rfl, hBB, Below.refl _ _⟩
      case rest =>
      clear M N hjm
      obtain ⟨rfl, hBc, hBd⟩ := hcut
      replace b := b.gr hBd
      replace y := y.gr hBd
      replace z := z.gr hBd
      clear hBB hBd
      have hBB := hBc
      clear hBc nj na hjn
      have l_b := b.lt
      have l_y := y.lt
      have l_z := z.lt
      obtain ⟨d0, d1, d2, d3⟩ := blk4c b
      obtain ⟨u0, u1, u2, u3, u4, u5, u6, u7, u8, u9, u10⟩ := as_cells y
      obtain ⟨v0, v1, v2, v3⟩ := blk4c z
      go_wp2_with fail
      refine (copyJoint_any j A c B _ (HJ.out _ hBB) HA.out (by omega)).mono ?_
      rintro e wc7 ⟨v, rfl, own, hBc7⟩
      replace b := b.gr hBc7
      replace y := y.gr hBc7
      replace z := z.gr hBc7
      obtain ⟨g18, c18, cs, rfl, hge, zg, hpre, hc18, hc18'⟩ := copied_blk (by omega) own
      replace hge := Nat.le_trans (Below.size hBB) hge
      clear own
      replace hBB := hBB.trans (Below.mono hBc7 (Below.size hBB))
      clear hBc7
      clear l_b d0 d1 d2 d3 l_y u0 u1 u2 u3 u4 u5 u6 u7 u8 u9 u10 l_z v0 v1 v2 v3
      have l_b := b.lt
      have l_y := y.lt
      have l_z := z.lt
      obtain ⟨d0, d1, d2, d3⟩ := blk4c b
      obtain ⟨u0, u1, u2, u3, u4, u5, u6, u7, u8, u9, u10⟩ := as_cells y
      obtain ⟨v0, v1, v2, v3⟩ := blk4c z
      have l_zg := zg.lt
      have hp18 := Below.size hBB
      have z18 := Blk.new wc7 24 #[.string j.nm, .int .i64 j.thick, .int .i64 j.zone, .slice (some ⟨g18, 0, none⟩) j.fs.length c18]
      replace b := b.alloc (.cells #[.string j.nm, .int .i64 j.thick, .int .i64 j.zone, .slice (some ⟨g18, 0, none⟩) j.fs.length c18] 24 (0, 0))
      replace y := y.alloc (.cells #[.string j.nm, .int .i64 j.thick, .int .i64 j.zone, .slice (some ⟨g18, 0, none⟩) j.fs.length c18] 24 (0, 0))
      replace z := z.alloc (.cells #[.string j.nm, .int .i64 j.thick, .int .i64 j.zone, .slice (some ⟨g18, 0, none⟩) j.fs.length c18] 24 (0, 0))
      replace zg := zg.alloc (.cells #[.string j.nm, .int .i64 j.thick, .int .i64 j.zone, .slice (some ⟨g18, 0, none⟩) j.fs.length c18] 24 (0, 0))
      replace hBB := hBB.alloc (Below.size hBB) (.cells #[.string j.nm, .int .i64 j.thick, .int .i64 j.zone, .slice (some ⟨g18, 0, none⟩) j.fs.length c18] 24 (0, 0))
      clear l_b d0 d1 d2 d3 l_y u0 u1 u2 u3 u4 u5 u6 u7 u8 u9 u10 l_z v0 v1 v2 v3 l_zg
      have l_b := b.lt
      have l_y := y.lt
      have l_z := z.lt
      have l_zg := zg.lt
      have l_z18 := z18.lt
      obtain ⟨d0, d1, d2, d3⟩ := blk4c b
      obtain ⟨u0, u1, u2, u3, u4, u5, u6, u7, u8, u9, u10⟩ := as_cells y
      obtain ⟨v0, v1, v2, v3⟩ := blk4c z
      obtain ⟨q0, q1, q2, q3⟩ := blk4c z18
      go_wp2_with fail
      generalize (wc7.alloc (.cells #[.string j.nm, .int .i64 j.thick, .int .i64 j.zone, .slice (some ⟨g18, 0, none⟩) j.fs.length c18] 24)) = wy at *
      have M18 : Made wy w.heap.size j k sn s _ (w.heap.size + 1) g18 c18 j.fs := ⟨z18, y, ⟨_, zg, hpre⟩, hp18, by omega, hge, rfl, hc18, hc18'⟩
      go_upto_region 23 with fail
      refine turnReg23 M18 hk w.heap.size B c A b (HJ.out _ hBB).row (HJ.out _ hBB).base hB _ _ ?_
      intro _ _ _ _ _ _ _ _ _ _ _ _ _ _ _ _ _ _ _ _ _ _ _ _ _ _ w23 M23 hG
      clear l_b d0 d1 d2 d3 l_y u0 u1 u2 u3 u4 u5 u6 u7 u8 u9 u10 l_z v0 v1 v2 v3 l_zg l_z18 q0 q1 q2 q3
      have hbg := b.ne_ zg (by decide)
      have hzg := z.ne_ zg (by decide)
      replace b := b.grown hG (by simpa using hbg)
      replace z := z.grown hG (by simpa using hzg)
      replace hBB := below_only hBB hG (Below.size hBB) hge
      clear zg z18 y hbg hzg hG M18 hpre
      have eO : (j.withFs (j.fs.set k (j.fs[k].1, j.fs[k].2.turn))).fs.length = j.fs.length := by simp [Jo.withFs]
      have hjo := M23.jo hnm (by intro p hp; rcases List.mem_or_eq_of_mem_set hp with hq | rfl; exact HFs.out _ hq; exact HFs.out (j.fs[k]) (List.getElem_mem hk))
      have hPo := Lib.hid (partOf_any (j.withFs (j.fs.set k (j.fs[k].1, j.fs[k].2.turn))) k sn s (some ⟨g18, 0, none⟩) c18 _ _ hjo (HE.out _ hBB) hns hw)
      rw [HT.out] at hPo
      unfold joC asC prC PR.turn at hPo
      rw [eO] at hPo
      dsimp only at hPo
      have oj := M23.joint
      have y := M23.ask
      unfold asC at y
      clear hjo M23
      have l_b := b.lt
      have l_z := z.lt
      obtain ⟨d0, d1, d2, d3⟩ := blk4c b
      obtain ⟨v0, v1, v2, v3⟩ := blk4c z
      have l_oj := oj.lt
      obtain ⟨m0, m1, m2, m3⟩ := blk4c oj
      have l_y := y.lt
      obtain ⟨u0, u1, u2, u3, u4, u5, u6, u7, u8, u9, u10⟩ := as_cells y
      go_wp2_with fail
      refine (hPo.out).mono ?_
      rintro e wc8 ⟨rfl, hBc8⟩
      replace b := b.gr hBc8
      replace z := z.gr hBc8
      replace oj := oj.gr hBc8
      replace y := y.gr hBc8
      replace hBB := hBB.trans (Below.mono hBc8 (Below.size hBB))
      clear hBc8
      clear l_b d0 d1 d2 d3 l_z v0 v1 v2 v3 l_oj m0 m1 m2 m3 l_y u0 u1 u2 u3 u4 u5 u6 u7 u8 u9 u10
      have l_b := b.lt
      have l_z := z.lt
      have l_oj := oj.lt
      have l_y := y.lt
      obtain ⟨d0, d1, d2, d3⟩ := blk4c b
      obtain ⟨v0, v1, v2, v3⟩ := blk4c z
      obtain ⟨m0, m1, m2, m3⟩ := blk4c oj
      obtain ⟨u0, u1, u2, u3, u4, u5, u6, u7, u8, u9, u10⟩ := as_cells y
      clear hPo
      have z19 := Blk.new wc8 51 #[.int .i64 (r.d - r.c), .int .i64 r.d, .int .i64 (r.b - r.a), .int .i64 r.b]
      replace b := b.alloc (.cells #[.int .i64 (r.d - r.c), .int .i64 r.d, .int .i64 (r.b - r.a), .int .i64 r.b] 51 (0, 0))
      replace z := z.alloc (.cells #[.int .i64 (r.d - r.c), .int .i64 r.d, .int .i64 (r.b - r.a), .int .i64 r.b] 51 (0, 0))
      replace oj := oj.alloc (.cells #[.int .i64 (r.d - r.c), .int .i64 r.d, .int .i64 (r.b - r.a), .int .i64 r.b] 51 (0, 0))
      replace y := y.alloc (.cells #[.int .i64 (r.d - r.c), .int .i64 r.d, .int .i64 (r.b - r.a), .int .i64 r.b] 51 (0, 0))
      replace hBB := hBB.alloc (Below.size hBB) (.cells #[.int .i64 (r.d - r.c), .int .i64 r.d, .int .i64 (r.b - r.a), .int .i64 r.b] 51 (0, 0))
      clear l_b d0 d1 d2 d3 l_z v0 v1 v2 v3 l_oj m0 m1 m2 m3 l_y u0 u1 u2 u3 u4 u5 u6 u7 u8 u9 u10
      have l_b := b.lt
      have l_z := z.lt
      have l_oj := oj.lt
      have l_y := y.lt
      have l_z19 := z19.lt
      obtain ⟨d0, d1, d2, d3⟩ := blk4c b
      obtain ⟨v0, v1, v2, v3⟩ := blk4c z
      obtain ⟨m0, m1, m2, m3⟩ := blk4c oj
      obtain ⟨u0, u1, u2, u3, u4, u5, u6, u7, u8, u9, u10⟩ := as_cells y
      obtain ⟨q0, q1, q2, q3⟩ := blk4c z19
      clear oj y b
      rcases HPE.out with ⟨he, _, rfl, d1', d2', d3', d4', d5', d6', d7', d8'⟩ | hr
      · have he0 : (r.e != 0) = false := by simp [he]
        go_wp2_with fail
        generalize (wc8.alloc (.cells #[.int .i64 (r.d - r.c), .int .i64 r.d, .int .i64 (r.b - r.a), .int .i64 r.b] 51)) = wv at *
        refine wp_region_w (Gr _) (by kernel_rfl) (Below.refl _ _).drew ?_
        refine wpW_det (t' := ?ct0R1) 0 (by rfl) (by kernel_rfl) (NQ_free _) (by kernel_rfl) ?cw0R1 ?ch0R1 ?ca0R1 (Eq.refl _) ?cH0R1
        case cw0R1 => (go_simp; done)
        case ch0R1 =>
          intro ds w' hS K hK
          have hc := (bcell hS).1
          have hf := (bcell hS).2
          have hz := hS.size
          try simp at hz
          go_simp
          try go_bits
          first
            | exact hK _ hS (Gr.refl _)
            | (go_at_call 22; refine (lawPoint_any _ _ _).mono ?_; rintro e w1 ⟨rfl, hB1⟩; obtain ⟨hc1, hf1⟩ := bcell hB1; have hz1 := hB1.size; (try simp at hz1); exact hK _ (Below.trans hS (Below.mono hB1 (by first | exact Nat.le_refl _ | (simp; done) | (simp; omega) | omega))) hB1)
            | exact hK _ (by repeat (first | (with_reducible exact Below.refl _ _) | (with_reducible assumption) | ((with_reducible refine Below.setCell ?_ ?_ _); rotate_left; · (first | exact Nat.le_refl _ | (simp; done) | (simp; omega) | omega)) | ((with_reducible refine Below.alloc ?_ ?_ _); rotate_left; · (first | exact Nat.le_refl _ | (simp; done) | (simp; omega) | omega)) | (with_reducible apply Below.drew) | (with_reducible apply below_drewN') | (refine Below.trans ?_ (Below.mono (by assumption) (by first | exact Nat.le_refl _ | (simp; done) | (simp; omega) | omega))) | exact Below.refl _ _ | assumption)) (by repeat (first | (with_reducible exact Below.refl _ _) | (with_reducible assumption) | ((with_reducible refine Below.setCell ?_ ?_ _); rotate_left; · (first | exact Nat.le_refl _ | (simp; done) | (simp; omega) | omega)) | ((with_reducible refine Below.alloc ?_ ?_ _); rotate_left; · (first | exact Nat.le_refl _ | (simp; done) | (simp; omega) | omega)) | (with_reducible apply Below.drew) | (with_reducible apply below_drewN') | (refine Below.trans ?_ (Below.mono (by assumption) (by first | exact Nat.le_refl _ | (simp; done) | (simp; omega) | omega))) | exact Below.refl _ _ | assumption))
        case ca0R1 => (first | (simp [Act.put]; done) | (simp [Act.put, *]; done))
        try dsimp only
        refine wpW_det (t' := ?ct1R1) 1 (by rfl) (by kernel_rfl) (NQ_free _) (by kernel_rfl) ?cw1R1 ?ch1R1 ?ca1R1 (Eq.refl _) ?cH1R1
        case cw1R1 => (go_simp; done)
        case ch1R1 =>
          intro ds w' hS K hK
          have hc := (bcell hS).1
          have hf := (bcell hS).2
          have hz := hS.size
          try simp at hz
          go_simp
          try go_bits
          first
            | exact hK _ hS (Gr.refl _)
            | (go_at_call 22; refine (lawPoint_any _ _ _).mono ?_; rintro e w1 ⟨rfl, hB1⟩; obtain ⟨hc1, hf1⟩ := bcell hB1; have hz1 := hB1.size; (try simp at hz1); exact hK _ (Below.trans hS (Below.mono hB1 (by first | exact Nat.le_refl _ | (simp; done) | (simp; omega) | omega))) hB1)
            | exact hK _ (by repeat (first | (with_reducible exact Below.refl _ _) | (with_reducible assumption) | ((with_reducible refine Below.setCell ?_ ?_ _); rotate_left; · (first | exact Nat.le_refl _ | (simp; done) | (simp; omega) | omega)) | ((with_reducible refine Below.alloc ?_ ?_ _); rotate_left; · (first | exact Nat.le_refl _ | (simp; done) | (simp; omega) | omega)) | (with_reducible apply Below.drew) | (with_reducible apply below_drewN') | (refine Below.trans ?_ (Below.mono (by assumption) (by first | exact Nat.le_refl _ | (simp; done) | (simp; omega) | omega))) | exact Below.refl _ _ | assumption)) (by repeat (first | (with_reducible exact Below.refl _ _) | (with_reducible assumption) | ((with_reducible refine Below.setCell ?_ ?_ _); rotate_left; · (first | exact Nat.le_refl _ | (simp; done) | (simp; omega) | omega)) | ((with_reducible refine Below.alloc ?_ ?_ _); rotate_left; · (first | exact Nat.le_refl _ | (simp; done) | (simp; omega) | omega)) | (with_reducible apply Below.drew) | (with_reducible apply below_drewN') | (refine Below.trans ?_ (Below.mono (by assumption) (by first | exact Nat.le_refl _ | (simp; done) | (simp; omega) | omega))) | exact Below.refl _ _ | assumption))
        case ca1R1 => (first | (simp [Act.put]; done) | (simp [Act.put, *]; done))
        try dsimp only
        refine wpW_det (t' := ?ct2R1) 2 (by rfl) (by kernel_rfl) (NQ_free _) (by kernel_rfl) ?cw2R1 ?ch2R1 ?ca2R1 (Eq.refl _) ?cH2R1
        case cw2R1 => (go_simp; done)
        case ch2R1 =>
          intro ds w' hS K hK
          have hc := (bcell hS).1
          have hf := (bcell hS).2
          have hz := hS.size
          try simp at hz
          go_simp
          try go_bits
          first
            | exact hK _ hS (Gr.refl _)
            | (go_at_call 22; refine (lawPoint_any _ _ _).mono ?_; rintro e w1 ⟨rfl, hB1⟩; obtain ⟨hc1, hf1⟩ := bcell hB1; have hz1 := hB1.size; (try simp at hz1); exact hK _ (Below.trans hS (Below.mono hB1 (by first | exact Nat.le_refl _ | (simp; done) | (simp; omega) | omega))) hB1)
            | exact hK _ (by repeat (first | (with_reducible exact Below.refl _ _) | (with_reducible assumption) | ((with_reducible refine Below.setCell ?_ ?_ _); rotate_left; · (first | exact Nat.le_refl _ | (simp; done) | (simp; omega) | omega)) | ((with_reducible refine Below.alloc ?_ ?_ _); rotate_left; · (first | exact Nat.le_refl _ | (simp; done) | (simp; omega) | omega)) | (with_reducible apply Below.drew) | (with_reducible apply below_drewN') | (refine Below.trans ?_ (Below.mono (by assumption) (by first | exact Nat.le_refl _ | (simp; done) | (simp; omega) | omega))) | exact Below.refl _ _ | assumption)) (by repeat (first | (with_reducible exact Below.refl _ _) | (with_reducible assumption) | ((with_reducible refine Below.setCell ?_ ?_ _); rotate_left; · (first | exact Nat.le_refl _ | (simp; done) | (simp; omega) | omega)) | ((with_reducible refine Below.alloc ?_ ?_ _); rotate_left; · (first | exact Nat.le_refl _ | (simp; done) | (simp; omega) | omega)) | (with_reducible apply Below.drew) | (with_reducible apply below_drewN') | (refine Below.trans ?_ (Below.mono (by assumption) (by first | exact Nat.le_refl _ | (simp; done) | (simp; omega) | omega))) | exact Below.refl _ _ | assumption))
        case ca2R1 => (first | (simp [Act.put]; done) | (simp [Act.put, *]; done))
        try dsimp only
        refine wpW_det (t' := ?ct3R1) 3 (by rfl) (by kernel_rfl) (NQ_free _) (by kernel_rfl) ?cw3R1 ?ch3R1 ?ca3R1 (Eq.refl _) ?cH3R1
        case cw3R1 => (go_simp; done)
        case ch3R1 =>
          intro ds w' hS K hK
          have hc := (bcell hS).1
          have hf := (bcell hS).2
          have hz := hS.size
          try simp at hz
          go_simp
          try go_bits
          first
            | exact hK _ hS (Gr.refl _)
            | (go_at_call 22; refine (lawPoint_any _ _ _).mono ?_; rintro e w1 ⟨rfl, hB1⟩; obtain ⟨hc1, hf1⟩ := bcell hB1; have hz1 := hB1.size; (try simp at hz1); exact hK _ (Below.trans hS (Below.mono hB1 (by first | exact Nat.le_refl _ | (simp; done) | (simp; omega) | omega))) hB1)
            | exact hK _ (by repeat (first | (with_reducible exact Below.refl _ _) | (with_reducible assumption) | ((with_reducible refine Below.setCell ?_ ?_ _); rotate_left; · (first | exact Nat.le_refl _ | (simp; done) | (simp; omega) | omega)) | ((with_reducible refine Below.alloc ?_ ?_ _); rotate_left; · (first | exact Nat.le_refl _ | (simp; done) | (simp; omega) | omega)) | (with_reducible apply Below.drew) | (with_reducible apply below_drewN') | (refine Below.trans ?_ (Below.mono (by assumption) (by first | exact Nat.le_refl _ | (simp; done) | (simp; omega) | omega))) | exact Below.refl _ _ | assumption)) (by repeat (first | (with_reducible exact Below.refl _ _) | (with_reducible assumption) | ((with_reducible refine Below.setCell ?_ ?_ _); rotate_left; · (first | exact Nat.le_refl _ | (simp; done) | (simp; omega) | omega)) | ((with_reducible refine Below.alloc ?_ ?_ _); rotate_left; · (first | exact Nat.le_refl _ | (simp; done) | (simp; omega) | omega)) | (with_reducible apply Below.drew) | (with_reducible apply below_drewN') | (refine Below.trans ?_ (Below.mono (by assumption) (by first | exact Nat.le_refl _ | (simp; done) | (simp; omega) | omega))) | exact Below.refl _ _ | assumption))
        case ca3R1 => (first | (simp [Act.put]; done) | (simp [Act.put, *]; done))
        try dsimp only
        refine wpW_det (t' := ?ct4R1) 4 (by rfl) (by kernel_rfl) (NQ_free _) (by kernel_rfl) ?cw4R1 ?ch4R1 ?ca4R1 (Eq.refl _) ?cH4R1
        case cw4R1 => (go_simp; done)
        case ch4R1 =>
          intro ds w' hS K hK
          have hc := (bcell hS).1
          have hf := (bcell hS).2
          have hz := hS.size
          try simp at hz
          go_simp
          try go_bits
          first
            | exact hK _ hS (Gr.refl _)
            | (go_at_call 22; refine (lawPoint_any _ _ _).mono ?_; rintro e w1 ⟨rfl, hB1⟩; obtain ⟨hc1, hf1⟩ := bcell hB1; have hz1 := hB1.size; (try simp at hz1); exact hK _ (Below.trans hS (Below.mono hB1 (by first | exact Nat.le_refl _ | (simp; done) | (simp; omega) | omega))) hB1)
            | exact hK _ (by repeat (first | (with_reducible exact Below.refl _ _) | (with_reducible assumption) | ((with_reducible refine Below.setCell ?_ ?_ _); rotate_left; · (first | exact Nat.le_refl _ | (simp; done) | (simp; omega) | omega)) | ((with_reducible refine Below.alloc ?_ ?_ _); rotate_left; · (first | exact Nat.le_refl _ | (simp; done) | (simp; omega) | omega)) | (with_reducible apply Below.drew) | (with_reducible apply below_drewN') | (refine Below.trans ?_ (Below.mono (by assumption) (by first | exact Nat.le_refl _ | (simp; done) | (simp; omega) | omega))) | exact Below.refl _ _ | assumption)) (by repeat (first | (with_reducible exact Below.refl _ _) | (with_reducible assumption) | ((with_reducible refine Below.setCell ?_ ?_ _); rotate_left; · (first | exact Nat.le_refl _ | (simp; done) | (simp; omega) | omega)) | ((with_reducible refine Below.alloc ?_ ?_ _); rotate_left; · (first | exact Nat.le_refl _ | (simp; done) | (simp; omega) | omega)) | (with_reducible apply Below.drew) | (with_reducible apply below_drewN') | (refine Below.trans ?_ (Below.mono (by assumption) (by first | exact Nat.le_refl _ | (simp; done) | (simp; omega) | omega))) | exact Below.refl _ _ | assumption))
        case ca4R1 => (first | (simp [Act.put]; done) | (simp [Act.put, *]; done))
        try dsimp only
        refine wpW_det (t' := ?ct5R1) 5 (by rfl) (by kernel_rfl) (NQ_free _) (by kernel_rfl) ?cw5R1 ?ch5R1 ?ca5R1 (Eq.refl _) ?cH5R1
        case cw5R1 => (go_simp; done)
        case ch5R1 =>
          intro ds w' hS K hK
          have hc := (bcell hS).1
          have hf := (bcell hS).2
          have hz := hS.size
          try simp at hz
          go_simp
          try go_bits
          first
            | exact hK _ hS (Gr.refl _)
            | (go_at_call 22; refine (lawPoint_any _ _ _).mono ?_; rintro e w1 ⟨rfl, hB1⟩; obtain ⟨hc1, hf1⟩ := bcell hB1; have hz1 := hB1.size; (try simp at hz1); exact hK _ (Below.trans hS (Below.mono hB1 (by first | exact Nat.le_refl _ | (simp; done) | (simp; omega) | omega))) hB1)
            | exact hK _ (by repeat (first | (with_reducible exact Below.refl _ _) | (with_reducible assumption) | ((with_reducible refine Below.setCell ?_ ?_ _); rotate_left; · (first | exact Nat.le_refl _ | (simp; done) | (simp; omega) | omega)) | ((with_reducible refine Below.alloc ?_ ?_ _); rotate_left; · (first | exact Nat.le_refl _ | (simp; done) | (simp; omega) | omega)) | (with_reducible apply Below.drew) | (with_reducible apply below_drewN') | (refine Below.trans ?_ (Below.mono (by assumption) (by first | exact Nat.le_refl _ | (simp; done) | (simp; omega) | omega))) | exact Below.refl _ _ | assumption)) (by repeat (first | (with_reducible exact Below.refl _ _) | (with_reducible assumption) | ((with_reducible refine Below.setCell ?_ ?_ _); rotate_left; · (first | exact Nat.le_refl _ | (simp; done) | (simp; omega) | omega)) | ((with_reducible refine Below.alloc ?_ ?_ _); rotate_left; · (first | exact Nat.le_refl _ | (simp; done) | (simp; omega) | omega)) | (with_reducible apply Below.drew) | (with_reducible apply below_drewN') | (refine Below.trans ?_ (Below.mono (by assumption) (by first | exact Nat.le_refl _ | (simp; done) | (simp; omega) | omega))) | exact Below.refl _ _ | assumption))
        case ca5R1 => (first | (simp [Act.put]; done) | (simp [Act.put, *]; done))
        try dsimp only
        refine wpW_det (t' := ?ct6R1) 6 (by rfl) (by kernel_rfl) (NQ_free _) (by kernel_rfl) ?cw6R1 ?ch6R1 ?ca6R1 (Eq.refl _) ?cH6R1
        case cw6R1 => (go_simp; done)
        case ch6R1 =>
          intro ds w' hS K hK
          have hc := (bcell hS).1
          have hf := (bcell hS).2
          have hz := hS.size
          try simp at hz
          go_simp
          try go_bits
          first
            | exact hK _ hS (Gr.refl _)
            | (go_at_call 22; refine (lawPoint_any _ _ _).mono ?_; rintro e w1 ⟨rfl, hB1⟩; obtain ⟨hc1, hf1⟩ := bcell hB1; have hz1 := hB1.size; (try simp at hz1); exact hK _ (Below.trans hS (Below.mono hB1 (by first | exact Nat.le_refl _ | (simp; done) | (simp; omega) | omega))) hB1)
            | exact hK _ (by repeat (first | (with_reducible exact Below.refl _ _) | (with_reducible assumption) | ((with_reducible refine Below.setCell ?_ ?_ _); rotate_left; · (first | exact Nat.le_refl _ | (simp; done) | (simp; omega) | omega)) | ((with_reducible refine Below.alloc ?_ ?_ _); rotate_left; · (first | exact Nat.le_refl _ | (simp; done) | (simp; omega) | omega)) | (with_reducible apply Below.drew) | (with_reducible apply below_drewN') | (refine Below.trans ?_ (Below.mono (by assumption) (by first | exact Nat.le_refl _ | (simp; done) | (simp; omega) | omega))) | exact Below.refl _ _ | assumption)) (by repeat (first | (with_reducible exact Below.refl _ _) | (with_reducible assumption) | ((with_reducible refine Below.setCell ?_ ?_ _); rotate_left; · (first | exact Nat.le_refl _ | (simp; done) | (simp; omega) | omega)) | ((with_reducible refine Below.alloc ?_ ?_ _); rotate_left; · (first | exact Nat.le_refl _ | (simp; done) | (simp; omega) | omega)) | (with_reducible apply Below.drew) | (with_reducible apply below_drewN') | (refine Below.trans ?_ (Below.mono (by assumption) (by first | exact Nat.le_refl _ | (simp; done) | (simp; omega) | omega))) | exact Below.refl _ _ | assumption))
        case ca6R1 => (first | (simp [Act.put]; done) | (simp [Act.put, *]; done))
        try dsimp only
        refine wpW_det (t' := ?ct7R1) 7 (by rfl) (by kernel_rfl) (NQ_free _) (by kernel_rfl) ?cw7R1 ?ch7R1 ?ca7R1 (Eq.refl _) ?cH7R1
        case cw7R1 => (go_simp; done)
        case ch7R1 =>
          intro ds w' hS K hK
          have hc := (bcell hS).1
          have hf := (bcell hS).2
          have hz := hS.size
          try simp at hz
          go_simp
          try go_bits
          first
            | exact hK _ hS (Gr.refl _)
            | (go_at_call 22; refine (lawPoint_any _ _ _).mono ?_; rintro e w1 ⟨rfl, hB1⟩; obtain ⟨hc1, hf1⟩ := bcell hB1; have hz1 := hB1.size; (try simp at hz1); exact hK _ (Below.trans hS (Below.mono hB1 (by first | exact Nat.le_refl _ | (simp; done) | (simp; omega) | omega))) hB1)
            | exact hK _ (by repeat (first | (with_reducible exact Below.refl _ _) | (with_reducible assumption) | ((with_reducible refine Below.setCell ?_ ?_ _); rotate_left; · (first | exact Nat.le_refl _ | (simp; done) | (simp; omega) | omega)) | ((with_reducible refine Below.alloc ?_ ?_ _); rotate_left; · (first | exact Nat.le_refl _ | (simp; done) | (simp; omega) | omega)) | (with_reducible apply Below.drew) | (with_reducible apply below_drewN') | (refine Below.trans ?_ (Below.mono (by assumption) (by first | exact Nat.le_refl _ | (simp; done) | (simp; omega) | omega))) | exact Below.refl _ _ | assumption)) (by repeat (first | (with_reducible exact Below.refl _ _) | (with_reducible assumption) | ((with_reducible refine Below.setCell ?_ ?_ _); rotate_left; · (first | exact Nat.le_refl _ | (simp; done) | (simp; omega) | omega)) | ((with_reducible refine Below.alloc ?_ ?_ _); rotate_left; · (first | exact Nat.le_refl _ | (simp; done) | (simp; omega) | omega)) | (with_reducible apply Below.drew) | (with_reducible apply below_drewN') | (refine Below.trans ?_ (Below.mono (by assumption) (by first | exact Nat.le_refl _ | (simp; done) | (simp; omega) | omega))) | exact Below.refl _ _ | assumption))
        case ca7R1 => (first | (simp [Act.put]; done) | (simp [Act.put, *]; done))
        try dsimp only
        refine wpW_det (t' := ?ct8R1) 8 (by rfl) (by kernel_rfl) (NQ_free _) (by kernel_rfl) ?cw8R1 ?ch8R1 ?ca8R1 (Eq.refl _) ?cH8R1
        case cw8R1 => (go_simp; done)
        case ch8R1 =>
          intro ds w' hS K hK
          have hc := (bcell hS).1
          have hf := (bcell hS).2
          have hz := hS.size
          try simp at hz
          go_simp
          try go_bits
          first
            | exact hK _ hS (Gr.refl _)
            | (go_at_call 22; refine (lawPoint_any _ _ _).mono ?_; rintro e w1 ⟨rfl, hB1⟩; obtain ⟨hc1, hf1⟩ := bcell hB1; have hz1 := hB1.size; (try simp at hz1); exact hK _ (Below.trans hS (Below.mono hB1 (by first | exact Nat.le_refl _ | (simp; done) | (simp; omega) | omega))) hB1)
            | exact hK _ (by repeat (first | (with_reducible exact Below.refl _ _) | (with_reducible assumption) | ((with_reducible refine Below.setCell ?_ ?_ _); rotate_left; · (first | exact Nat.le_refl _ | (simp; done) | (simp; omega) | omega)) | ((with_reducible refine Below.alloc ?_ ?_ _); rotate_left; · (first | exact Nat.le_refl _ | (simp; done) | (simp; omega) | omega)) | (with_reducible apply Below.drew) | (with_reducible apply below_drewN') | (refine Below.trans ?_ (Below.mono (by assumption) (by first | exact Nat.le_refl _ | (simp; done) | (simp; omega) | omega))) | exact Below.refl _ _ | assumption)) (by repeat (first | (with_reducible exact Below.refl _ _) | (with_reducible assumption) | ((with_reducible refine Below.setCell ?_ ?_ _); rotate_left; · (first | exact Nat.le_refl _ | (simp; done) | (simp; omega) | omega)) | ((with_reducible refine Below.alloc ?_ ?_ _); rotate_left; · (first | exact Nat.le_refl _ | (simp; done) | (simp; omega) | omega)) | (with_reducible apply Below.drew) | (with_reducible apply below_drewN') | (refine Below.trans ?_ (Below.mono (by assumption) (by first | exact Nat.le_refl _ | (simp; done) | (simp; omega) | omega))) | exact Below.refl _ _ | assumption))
        case ca8R1 => (first | (simp [Act.put]; done) | (simp [Act.put, *]; done))
        try dsimp only
        refine wpW_det (t' := ?ct9R1) 9 (by rfl) (by kernel_rfl) (NQ_free _) (by kernel_rfl) ?cw9R1 ?ch9R1 ?ca9R1 (Eq.refl _) ?cH9R1
        case cw9R1 => (go_simp; done)
        case ch9R1 =>
          intro ds w' hS K hK
          have hc := (bcell hS).1
          have hf := (bcell hS).2
          have hz := hS.size
          try simp at hz
          go_simp
          try go_bits
          first
            | exact hK _ hS (Gr.refl _)
            | (go_at_call 22; refine (lawPoint_any _ _ _).mono ?_; rintro e w1 ⟨rfl, hB1⟩; obtain ⟨hc1, hf1⟩ := bcell hB1; have hz1 := hB1.size; (try simp at hz1); exact hK _ (Below.trans hS (Below.mono hB1 (by first | exact Nat.le_refl _ | (simp; done) | (simp; omega) | omega))) hB1)
            | exact hK _ (by repeat (first | (with_reducible exact Below.refl _ _) | (with_reducible assumption) | ((with_reducible refine Below.setCell ?_ ?_ _); rotate_left; · (first | exact Nat.le_refl _ | (simp; done) | (simp; omega) | omega)) | ((with_reducible refine Below.alloc ?_ ?_ _); rotate_left; · (first | exact Nat.le_refl _ | (simp; done) | (simp; omega) | omega)) | (with_reducible apply Below.drew) | (with_reducible apply below_drewN') | (refine Below.trans ?_ (Below.mono (by assumption) (by first | exact Nat.le_refl _ | (simp; done) | (simp; omega) | omega))) | exact Below.refl _ _ | assumption)) (by repeat (first | (with_reducible exact Below.refl _ _) | (with_reducible assumption) | ((with_reducible refine Below.setCell ?_ ?_ _); rotate_left; · (first | exact Nat.le_refl _ | (simp; done) | (simp; omega) | omega)) | ((with_reducible refine Below.alloc ?_ ?_ _); rotate_left; · (first | exact Nat.le_refl _ | (simp; done) | (simp; omega) | omega)) | (with_reducible apply Below.drew) | (with_reducible apply below_drewN') | (refine Below.trans ?_ (Below.mono (by assumption) (by first | exact Nat.le_refl _ | (simp; done) | (simp; omega) | omega))) | exact Below.refl _ _ | assumption))
        case ca9R1 => (first | (simp [Act.put]; done) | (simp [Act.put, *]; done))
        try dsimp only
        refine wpW_det (t' := ?ct10R1) 10 (by rfl) (by kernel_rfl) (NQ_free _) (by kernel_rfl) ?cw10R1 ?ch10R1 ?ca10R1 (Eq.refl _) ?cH10R1
        case cw10R1 => (go_simp; done)
        case ch10R1 =>
          intro ds w' hS K hK
          have hc := (bcell hS).1
          have hf := (bcell hS).2
          have hz := hS.size
          try simp at hz
          go_simp
          try go_bits
          first
            | exact hK _ hS (Gr.refl _)
            | (go_at_call 22; refine (lawPoint_any _ _ _).mono ?_; rintro e w1 ⟨rfl, hB1⟩; obtain ⟨hc1, hf1⟩ := bcell hB1; have hz1 := hB1.size; (try simp at hz1); exact hK _ (Below.trans hS (Below.mono hB1 (by first | exact Nat.le_refl _ | (simp; done) | (simp; omega) | omega))) hB1)
            | exact hK _ (by repeat (first | (with_reducible exact Below.refl _ _) | (with_reducible assumption) | ((with_reducible refine Below.setCell ?_ ?_ _); rotate_left; · (first | exact Nat.le_refl _ | (simp; done) | (simp; omega) | omega)) | ((with_reducible refine Below.alloc ?_ ?_ _); rotate_left; · (first | exact Nat.le_refl _ | (simp; done) | (simp; omega) | omega)) | (with_reducible apply Below.drew) | (with_reducible apply below_drewN') | (refine Below.trans ?_ (Below.mono (by assumption) (by first | exact Nat.le_refl _ | (simp; done) | (simp; omega) | omega))) | exact Below.refl _ _ | assumption)) (by repeat (first | (with_reducible exact Below.refl _ _) | (with_reducible assumption) | ((with_reducible refine Below.setCell ?_ ?_ _); rotate_left; · (first | exact Nat.le_refl _ | (simp; done) | (simp; omega) | omega)) | ((with_reducible refine Below.alloc ?_ ?_ _); rotate_left; · (first | exact Nat.le_refl _ | (simp; done) | (simp; omega) | omega)) | (with_reducible apply Below.drew) | (with_reducible apply below_drewN') | (refine Below.trans ?_ (Below.mono (by assumption) (by first | exact Nat.le_refl _ | (simp; done) | (simp; omega) | omega))) | exact Below.refl _ _ | assumption))
        case ca10R1 => (first | (simp [Act.put]; done) | (simp [Act.put, *]; done))
        try dsimp only
        refine wpW_det (t' := ?ct11R1) 11 (by rfl) (by kernel_rfl) (NQ_free _) (by kernel_rfl) ?cw11R1 ?ch11R1 ?ca11R1 (Eq.refl _) ?cH11R1
        case cw11R1 => (go_simp; done)
        case ch11R1 =>
          intro ds w' hS K hK
          have hc := (bcell hS).1
          have hf := (bcell hS).2
          have hz := hS.size
          try simp at hz
          go_simp
          try go_bits
          first
            | exact hK _ hS (Gr.refl _)
            | (go_at_call 22; refine (lawPoint_any _ _ _).mono ?_; rintro e w1 ⟨rfl, hB1⟩; obtain ⟨hc1, hf1⟩ := bcell hB1; have hz1 := hB1.size; (try simp at hz1); exact hK _ (Below.trans hS (Below.mono hB1 (by first | exact Nat.le_refl _ | (simp; done) | (simp; omega) | omega))) hB1)
            | exact hK _ (by repeat (first | (with_reducible exact Below.refl _ _) | (with_reducible assumption) | ((with_reducible refine Below.setCell ?_ ?_ _); rotate_left; · (first | exact Nat.le_refl _ | (simp; done) | (simp; omega) | omega)) | ((with_reducible refine Below.alloc ?_ ?_ _); rotate_left; · (first | exact Nat.le_refl _ | (simp; done) | (simp; omega) | omega)) | (with_reducible apply Below.drew) | (with_reducible apply below_drewN') | (refine Below.trans ?_ (Below.mono (by assumption) (by first | exact Nat.le_refl _ | (simp; done) | (simp; omega) | omega))) | exact Below.refl _ _ | assumption)) (by repeat (first | (with_reducible exact Below.refl _ _) | (with_reducible assumption) | ((with_reducible refine Below.setCell ?_ ?_ _); rotate_left; · (first | exact Nat.le_refl _ | (simp; done) | (simp; omega) | omega)) | ((with_reducible refine Below.alloc ?_ ?_ _); rotate_left; · (first | exact Nat.le_refl _ | (simp; done) | (simp; omega) | omega)) | (with_reducible apply Below.drew) | (with_reducible apply below_drewN') | (refine Below.trans ?_ (Below.mono (by assumption) (by first | exact Nat.le_refl _ | (simp; done) | (simp; omega) | omega))) | exact Below.refl _ _ | assumption))
        case ca11R1 => (first | (simp [Act.put]; done) | (simp [Act.put, *]; done))
        try dsimp only
        refine wpW_det (t' := ?ct12R1) 12 (by rfl) (by kernel_rfl) (NQ_free _) (by kernel_rfl) ?cw12R1 ?ch12R1 ?ca12R1 (Eq.refl _) ?cH12R1
        case cw12R1 => (go_simp; done)
        case ch12R1 =>
          intro ds w' hS K hK
          have hc := (bcell hS).1
          have hf := (bcell hS).2
          have hz := hS.size
          try simp at hz
          go_simp
          try go_bits
          first
            | exact hK _ hS (Gr.refl _)
            | (go_at_call 22; refine (lawPoint_any _ _ _).mono ?_; rintro e w1 ⟨rfl, hB1⟩; obtain ⟨hc1, hf1⟩ := bcell hB1; have hz1 := hB1.size; (try simp at hz1); exact hK _ (Below.trans hS (Below.mono hB1 (by first | exact Nat.le_refl _ | (simp; done) | (simp; omega) | omega))) hB1)
            | exact hK _ (by repeat (first | (with_reducible exact Below.refl _ _) | (with_reducible assumption) | ((with_reducible refine Below.setCell ?_ ?_ _); rotate_left; · (first | exact Nat.le_refl _ | (simp; done) | (simp; omega) | omega)) | ((with_reducible refine Below.alloc ?_ ?_ _); rotate_left; · (first | exact Nat.le_refl _ | (simp; done) | (simp; omega) | omega)) | (with_reducible apply Below.drew) | (with_reducible apply below_drewN') | (refine Below.trans ?_ (Below.mono (by assumption) (by first | exact Nat.le_refl _ | (simp; done) | (simp; omega) | omega))) | exact Below.refl _ _ | assumption)) (by repeat (first | (with_reducible exact Below.refl _ _) | (with_reducible assumption) | ((with_reducible refine Below.setCell ?_ ?_ _); rotate_left; · (first | exact Nat.le_refl _ | (simp; done) | (simp; omega) | omega)) | ((with_reducible refine Below.alloc ?_ ?_ _); rotate_left; · (first | exact Nat.le_refl _ | (simp; done) | (simp; omega) | omega)) | (with_reducible apply Below.drew) | (with_reducible apply below_drewN') | (refine Below.trans ?_ (Below.mono (by assumption) (by first | exact Nat.le_refl _ | (simp; done) | (simp; omega) | omega))) | exact Below.refl _ _ | assumption))
        case ca12R1 => (first | (simp [Act.put]; done) | (simp [Act.put, *]; done))
        try dsimp only
        refine wpW_det (t' := ?ct13R1) 13 (by rfl) (by kernel_rfl) (NQ_free _) (by kernel_rfl) ?cw13R1 ?ch13R1 ?ca13R1 (Eq.refl _) ?cH13R1
        case cw13R1 => (go_simp; done)
        case ch13R1 =>
          intro ds w' hS K hK
          have hc := (bcell hS).1
          have hf := (bcell hS).2
          have hz := hS.size
          try simp at hz
          go_simp
          try go_bits
          first
            | exact hK _ hS (Gr.refl _)
            | (go_at_call 22; refine (lawPoint_any _ _ _).mono ?_; rintro e w1 ⟨rfl, hB1⟩; obtain ⟨hc1, hf1⟩ := bcell hB1; have hz1 := hB1.size; (try simp at hz1); exact hK _ (Below.trans hS (Below.mono hB1 (by first | exact Nat.le_refl _ | (simp; done) | (simp; omega) | omega))) hB1)
            | exact hK _ (by repeat (first | (with_reducible exact Below.refl _ _) | (with_reducible assumption) | ((with_reducible refine Below.setCell ?_ ?_ _); rotate_left; · (first | exact Nat.le_refl _ | (simp; done) | (simp; omega) | omega)) | ((with_reducible refine Below.alloc ?_ ?_ _); rotate_left; · (first | exact Nat.le_refl _ | (simp; done) | (simp; omega) | omega)) | (with_reducible apply Below.drew) | (with_reducible apply below_drewN') | (refine Below.trans ?_ (Below.mono (by assumption) (by first | exact Nat.le_refl _ | (simp; done) | (simp; omega) | omega))) | exact Below.refl _ _ | assumption)) (by repeat (first | (with_reducible exact Below.refl _ _) | (with_reducible assumption) | ((with_reducible refine Below.setCell ?_ ?_ _); rotate_left; · (first | exact Nat.le_refl _ | (simp; done) | (simp; omega) | omega)) | ((with_reducible refine Below.alloc ?_ ?_ _); rotate_left; · (first | exact Nat.le_refl _ | (simp; done) | (simp; omega) | omega)) | (with_reducible apply Below.drew) | (with_reducible apply below_drewN') | (refine Below.trans ?_ (Below.mono (by assumption) (by first | exact Nat.le_refl _ | (simp; done) | (simp; omega) | omega))) | exact Below.refl _ _ | assumption))
        case ca13R1 => (first | (simp [Act.put]; done) | (simp [Act.put, *]; done))
        try dsimp only
        refine wpW_det (t' := ?ct14R1) 14 (by rfl) (by kernel_rfl) (NQ_free _) (by kernel_rfl) ?cw14R1 ?ch14R1 ?ca14R1 (Eq.refl _) ?cH14R1
        case cw14R1 => (go_simp; done)
        case ch14R1 =>
          intro ds w' hS K hK
          have hc := (bcell hS).1
          have hf := (bcell hS).2
          have hz := hS.size
          try simp at hz
          go_simp
          try go_bits
          first
            | exact hK _ hS (Gr.refl _)
            | (go_at_call 22; refine (lawPoint_any _ _ _).mono ?_; rintro e w1 ⟨rfl, hB1⟩; obtain ⟨hc1, hf1⟩ := bcell hB1; have hz1 := hB1.size; (try simp at hz1); exact hK _ (Below.trans hS (Below.mono hB1 (by first | exact Nat.le_refl _ | (simp; done) | (simp; omega) | omega))) hB1)
            | exact hK _ (by repeat (first | (with_reducible exact Below.refl _ _) | (with_reducible assumption) | ((with_reducible refine Below.setCell ?_ ?_ _); rotate_left; · (first | exact Nat.le_refl _ | (simp; done) | (simp; omega) | omega)) | ((with_reducible refine Below.alloc ?_ ?_ _); rotate_left; · (first | exact Nat.le_refl _ | (simp; done) | (simp; omega) | omega)) | (with_reducible apply Below.drew) | (with_reducible apply below_drewN') | (refine Below.trans ?_ (Below.mono (by assumption) (by first | exact Nat.le_refl _ | (simp; done) | (simp; omega) | omega))) | exact Below.refl _ _ | assumption)) (by repeat (first | (with_reducible exact Below.refl _ _) | (with_reducible assumption) | ((with_reducible refine Below.setCell ?_ ?_ _); rotate_left; · (first | exact Nat.le_refl _ | (simp; done) | (simp; omega) | omega)) | ((with_reducible refine Below.alloc ?_ ?_ _); rotate_left; · (first | exact Nat.le_refl _ | (simp; done) | (simp; omega) | omega)) | (with_reducible apply Below.drew) | (with_reducible apply below_drewN') | (refine Below.trans ?_ (Below.mono (by assumption) (by first | exact Nat.le_refl _ | (simp; done) | (simp; omega) | omega))) | exact Below.refl _ _ | assumption))
        case ca14R1 => (first | (simp [Act.put]; done) | (simp [Act.put, *]; done))
        try dsimp only
        refine wpW_det (t' := ?ct15R1) 15 (by rfl) (by kernel_rfl) (NQ_free _) (by kernel_rfl) ?cw15R1 ?ch15R1 ?ca15R1 (Eq.refl _) ?cH15R1
        case cw15R1 => (go_simp; done)
        case ch15R1 =>
          intro ds w' hS K hK
          have hc := (bcell hS).1
          have hf := (bcell hS).2
          have hz := hS.size
          try simp at hz
          go_simp
          try go_bits
          first
            | exact hK _ hS (Gr.refl _)
            | (go_at_call 22; refine (lawPoint_any _ _ _).mono ?_; rintro e w1 ⟨rfl, hB1⟩; obtain ⟨hc1, hf1⟩ := bcell hB1; have hz1 := hB1.size; (try simp at hz1); exact hK _ (Below.trans hS (Below.mono hB1 (by first | exact Nat.le_refl _ | (simp; done) | (simp; omega) | omega))) hB1)
            | exact hK _ (by repeat (first | (with_reducible exact Below.refl _ _) | (with_reducible assumption) | ((with_reducible refine Below.setCell ?_ ?_ _); rotate_left; · (first | exact Nat.le_refl _ | (simp; done) | (simp; omega) | omega)) | ((with_reducible refine Below.alloc ?_ ?_ _); rotate_left; · (first | exact Nat.le_refl _ | (simp; done) | (simp; omega) | omega)) | (with_reducible apply Below.drew) | (with_reducible apply below_drewN') | (refine Below.trans ?_ (Below.mono (by assumption) (by first | exact Nat.le_refl _ | (simp; done) | (simp; omega) | omega))) | exact Below.refl _ _ | assumption)) (by repeat (first | (with_reducible exact Below.refl _ _) | (with_reducible assumption) | ((with_reducible refine Below.setCell ?_ ?_ _); rotate_left; · (first | exact Nat.le_refl _ | (simp; done) | (simp; omega) | omega)) | ((with_reducible refine Below.alloc ?_ ?_ _); rotate_left; · (first | exact Nat.le_refl _ | (simp; done) | (simp; omega) | omega)) | (with_reducible apply Below.drew) | (with_reducible apply below_drewN') | (refine Below.trans ?_ (Below.mono (by assumption) (by first | exact Nat.le_refl _ | (simp; done) | (simp; omega) | omega))) | exact Below.refl _ _ | assumption))
        case ca15R1 => (first | (simp [Act.put]; done) | (simp [Act.put, *]; done))
        try dsimp only
        refine wpW_det (t' := ?ct16R1) 16 (by rfl) (by kernel_rfl) (NQ_free _) (by kernel_rfl) ?cw16R1 ?ch16R1 ?ca16R1 (Eq.refl _) ?cH16R1
        case cw16R1 => (go_simp; done)
        case ch16R1 =>
          intro ds w' hS K hK
          have hc := (bcell hS).1
          have hf := (bcell hS).2
          have hz := hS.size
          try simp at hz
          go_simp
          try go_bits
          first
            | exact hK _ hS (Gr.refl _)
            | (go_at_call 22; refine (lawPoint_any _ _ _).mono ?_; rintro e w1 ⟨rfl, hB1⟩; obtain ⟨hc1, hf1⟩ := bcell hB1; have hz1 := hB1.size; (try simp at hz1); exact hK _ (Below.trans hS (Below.mono hB1 (by first | exact Nat.le_refl _ | (simp; done) | (simp; omega) | omega))) hB1)
            | exact hK _ (by repeat (first | (with_reducible exact Below.refl _ _) | (with_reducible assumption) | ((with_reducible refine Below.setCell ?_ ?_ _); rotate_left; · (first | exact Nat.le_refl _ | (simp; done) | (simp; omega) | omega)) | ((with_reducible refine Below.alloc ?_ ?_ _); rotate_left; · (first | exact Nat.le_refl _ | (simp; done) | (simp; omega) | omega)) | (with_reducible apply Below.drew) | (with_reducible apply below_drewN') | (refine Below.trans ?_ (Below.mono (by assumption) (by first | exact Nat.le_refl _ | (simp; done) | (simp; omega) | omega))) | exact Below.refl _ _ | assumption)) (by repeat (first | (with_reducible exact Below.refl _ _) | (with_reducible assumption) | ((with_reducible refine Below.setCell ?_ ?_ _); rotate_left; · (first | exact Nat.le_refl _ | (simp; done) | (simp; omega) | omega)) | ((with_reducible refine Below.alloc ?_ ?_ _); rotate_left; · (first | exact Nat.le_refl _ | (simp; done) | (simp; omega) | omega)) | (with_reducible apply Below.drew) | (with_reducible apply below_drewN') | (refine Below.trans ?_ (Below.mono (by assumption) (by first | exact Nat.le_refl _ | (simp; done) | (simp; omega) | omega))) | exact Below.refl _ _ | assumption))
        case ca16R1 => (first | (simp [Act.put]; done) | (simp [Act.put, *]; done))
        try dsimp only
        refine wpW_det (t' := ?ct17R1) 17 (by rfl) (by kernel_rfl) (NQ_free _) (by kernel_rfl) ?cw17R1 ?ch17R1 ?ca17R1 (Eq.refl _) ?cH17R1
        case cw17R1 => (go_simp; done)
        case ch17R1 =>
          intro ds w' hS K hK
          have hc := (bcell hS).1
          have hf := (bcell hS).2
          have hz := hS.size
          try simp at hz
          go_simp
          try go_bits
          first
            | exact hK _ hS (Gr.refl _)
            | (go_at_call 22; refine (lawPoint_any _ _ _).mono ?_; rintro e w1 ⟨rfl, hB1⟩; obtain ⟨hc1, hf1⟩ := bcell hB1; have hz1 := hB1.size; (try simp at hz1); exact hK _ (Below.trans hS (Below.mono hB1 (by first | exact Nat.le_refl _ | (simp; done) | (simp; omega) | omega))) hB1)
            | exact hK _ (by repeat (first | (with_reducible exact Below.refl _ _) | (with_reducible assumption) | ((with_reducible refine Below.setCell ?_ ?_ _); rotate_left; · (first | exact Nat.le_refl _ | (simp; done) | (simp; omega) | omega)) | ((with_reducible refine Below.alloc ?_ ?_ _); rotate_left; · (first | exact Nat.le_refl _ | (simp; done) | (simp; omega) | omega)) | (with_reducible apply Below.drew) | (with_reducible apply below_drewN') | (refine Below.trans ?_ (Below.mono (by assumption) (by first | exact Nat.le_refl _ | (simp; done) | (simp; omega) | omega))) | exact Below.refl _ _ | assumption)) (by repeat (first | (with_reducible exact Below.refl _ _) | (with_reducible assumption) | ((with_reducible refine Below.setCell ?_ ?_ _); rotate_left; · (first | exact Nat.le_refl _ | (simp; done) | (simp; omega) | omega)) | ((with_reducible refine Below.alloc ?_ ?_ _); rotate_left; · (first | exact Nat.le_refl _ | (simp; done) | (simp; omega) | omega)) | (with_reducible apply Below.drew) | (with_reducible apply below_drewN') | (refine Below.trans ?_ (Below.mono (by assumption) (by first | exact Nat.le_refl _ | (simp; done) | (simp; omega) | omega))) | exact Below.refl _ _ | assumption))
        case ca17R1 => (first | (simp [Act.put]; done) | (simp [Act.put, *]; done))
        try dsimp only
        refine wpW_det (t' := ?ct18R1) 18 (by rfl) (by kernel_rfl) (NQ_free _) (by kernel_rfl) ?cw18R1 ?ch18R1 ?ca18R1 (Eq.refl _) ?cH18R1
        case cw18R1 => (go_simp; done)
        case ch18R1 =>
          intro ds w' hS K hK
          have hc := (bcell hS).1
          have hf := (bcell hS).2
          have hz := hS.size
          try simp at hz
          go_simp
          try go_bits
          first
            | exact hK _ hS (Gr.refl _)
            | (go_at_call 22; refine (lawPoint_any _ _ _).mono ?_; rintro e w1 ⟨rfl, hB1⟩; obtain ⟨hc1, hf1⟩ := bcell hB1; have hz1 := hB1.size; (try simp at hz1); exact hK _ (Below.trans hS (Below.mono hB1 (by first | exact Nat.le_refl _ | (simp; done) | (simp; omega) | omega))) hB1)
            | exact hK _ (by repeat (first | (with_reducible exact Below.refl _ _) | (with_reducible assumption) | ((with_reducible refine Below.setCell ?_ ?_ _); rotate_left; · (first | exact Nat.le_refl _ | (simp; done) | (simp; omega) | omega)) | ((with_reducible refine Below.alloc ?_ ?_ _); rotate_left; · (first | exact Nat.le_refl _ | (simp; done) | (simp; omega) | omega)) | (with_reducible apply Below.drew) | (with_reducible apply below_drewN') | (refine Below.trans ?_ (Below.mono (by assumption) (by first | exact Nat.le_refl _ | (simp; done) | (simp; omega) | omega))) | exact Below.refl _ _ | assumption)) (by repeat (first | (with_reducible exact Below.refl _ _) | (with_reducible assumption) | ((with_reducible refine Below.setCell ?_ ?_ _); rotate_left; · (first | exact Nat.le_refl _ | (simp; done) | (simp; omega) | omega)) | ((with_reducible refine Below.alloc ?_ ?_ _); rotate_left; · (first | exact Nat.le_refl _ | (simp; done) | (simp; omega) | omega)) | (with_reducible apply Below.drew) | (with_reducible apply below_drewN') | (refine Below.trans ?_ (Below.mono (by assumption) (by first | exact Nat.le_refl _ | (simp; done) | (simp; omega) | omega))) | exact Below.refl _ _ | assumption))
        case ca18R1 => (first | (simp [Act.put]; done) | (simp [Act.put, *]; done))
        try dsimp only
        refine wpW_det (t' := ?ct19R1) 19 (by rfl) (by kernel_rfl) (NQ_free _) (by kernel_rfl) ?cw19R1 ?ch19R1 ?ca19R1 (Eq.refl _) ?cH19R1
        case cw19R1 => (go_simp; done)
        case ch19R1 =>
          intro ds w' hS K hK
          have hc := (bcell hS).1
          have hf := (bcell hS).2
          have hz := hS.size
          try simp at hz
          go_simp
          try go_bits
          first
            | exact hK _ hS (Gr.refl _)
            | (go_at_call 22; refine (lawPoint_any _ _ _).mono ?_; rintro e w1 ⟨rfl, hB1⟩; obtain ⟨hc1, hf1⟩ := bcell hB1; have hz1 := hB1.size; (try simp at hz1); exact hK _ (Below.trans hS (Below.mono hB1 (by first | exact Nat.le_refl _ | (simp; done) | (simp; omega) | omega))) hB1)
            | exact hK _ (by repeat (first | (with_reducible exact Below.refl _ _) | (with_reducible assumption) | ((with_reducible refine Below.setCell ?_ ?_ _); rotate_left; · (first | exact Nat.le_refl _ | (simp; done) | (simp; omega) | omega)) | ((with_reducible refine Below.alloc ?_ ?_ _); rotate_left; · (first | exact Nat.le_refl _ | (simp; done) | (simp; omega) | omega)) | (with_reducible apply Below.drew) | (with_reducible apply below_drewN') | (refine Below.trans ?_ (Below.mono (by assumption) (by first | exact Nat.le_refl _ | (simp; done) | (simp; omega) | omega))) | exact Below.refl _ _ | assumption)) (by repeat (first | (with_reducible exact Below.refl _ _) | (with_reducible assumption) | ((with_reducible refine Below.setCell ?_ ?_ _); rotate_left; · (first | exact Nat.le_refl _ | (simp; done) | (simp; omega) | omega)) | ((with_reducible refine Below.alloc ?_ ?_ _); rotate_left; · (first | exact Nat.le_refl _ | (simp; done) | (simp; omega) | omega)) | (with_reducible apply Below.drew) | (with_reducible apply below_drewN') | (refine Below.trans ?_ (Below.mono (by assumption) (by first | exact Nat.le_refl _ | (simp; done) | (simp; omega) | omega))) | exact Below.refl _ _ | assumption))
        case ca19R1 => (first | (simp [Act.put]; done) | (simp [Act.put, *]; done))
        try dsimp only
        refine wpW_det (t' := ?ct20R1) 20 (by rfl) (by kernel_rfl) (NQ_free _) (by kernel_rfl) ?cw20R1 ?ch20R1 ?ca20R1 (Eq.refl _) ?cH20R1
        case cw20R1 => (go_simp; done)
        case ch20R1 =>
          intro ds w' hS K hK
          have hc := (bcell hS).1
          have hf := (bcell hS).2
          have hz := hS.size
          try simp at hz
          go_simp
          try go_bits
          first
            | exact hK _ hS (Gr.refl _)
            | (go_at_call 22; refine (lawPoint_any _ _ _).mono ?_; rintro e w1 ⟨rfl, hB1⟩; obtain ⟨hc1, hf1⟩ := bcell hB1; have hz1 := hB1.size; (try simp at hz1); exact hK _ (Below.trans hS (Below.mono hB1 (by first | exact Nat.le_refl _ | (simp; done) | (simp; omega) | omega))) hB1)
            | exact hK _ (by repeat (first | (with_reducible exact Below.refl _ _) | (with_reducible assumption) | ((with_reducible refine Below.setCell ?_ ?_ _); rotate_left; · (first | exact Nat.le_refl _ | (simp; done) | (simp; omega) | omega)) | ((with_reducible refine Below.alloc ?_ ?_ _); rotate_left; · (first | exact Nat.le_refl _ | (simp; done) | (simp; omega) | omega)) | (with_reducible apply Below.drew) | (with_reducible apply below_drewN') | (refine Below.trans ?_ (Below.mono (by assumption) (by first | exact Nat.le_refl _ | (simp; done) | (simp; omega) | omega))) | exact Below.refl _ _ | assumption)) (by repeat (first | (with_reducible exact Below.refl _ _) | (with_reducible assumption) | ((with_reducible refine Below.setCell ?_ ?_ _); rotate_left; · (first | exact Nat.le_refl _ | (simp; done) | (simp; omega) | omega)) | ((with_reducible refine Below.alloc ?_ ?_ _); rotate_left; · (first | exact Nat.le_refl _ | (simp; done) | (simp; omega) | omega)) | (with_reducible apply Below.drew) | (with_reducible apply below_drewN') | (refine Below.trans ?_ (Below.mono (by assumption) (by first | exact Nat.le_refl _ | (simp; done) | (simp; omega) | omega))) | exact Below.refl _ _ | assumption))
        case ca20R1 => (first | (simp [Act.put]; done) | (simp [Act.put, *]; done))
        try dsimp only
        refine wpW_det (t' := ?ct21R1) 21 (by rfl) (by kernel_rfl) (NQ_free _) (by kernel_rfl) ?cw21R1 ?ch21R1 ?ca21R1 (Eq.refl _) ?cH21R1
        case cw21R1 => (go_simp; done)
        case ch21R1 =>
          intro ds w' hS K hK
          have hc := (bcell hS).1
          have hf := (bcell hS).2
          have hz := hS.size
          try simp at hz
          go_simp
          try go_bits
          first
            | exact hK _ hS (Gr.refl _)
            | (go_at_call 22; refine (lawPoint_any _ _ _).mono ?_; rintro e w1 ⟨rfl, hB1⟩; obtain ⟨hc1, hf1⟩ := bcell hB1; have hz1 := hB1.size; (try simp at hz1); exact hK _ (Below.trans hS (Below.mono hB1 (by first | exact Nat.le_refl _ | (simp; done) | (simp; omega) | omega))) hB1)
            | exact hK _ (by repeat (first | (with_reducible exact Below.refl _ _) | (with_reducible assumption) | ((with_reducible refine Below.setCell ?_ ?_ _); rotate_left; · (first | exact Nat.le_refl _ | (simp; done) | (simp; omega) | omega)) | ((with_reducible refine Below.alloc ?_ ?_ _); rotate_left; · (first | exact Nat.le_refl _ | (simp; done) | (simp; omega) | omega)) | (with_reducible apply Below.drew) | (with_reducible apply below_drewN') | (refine Below.trans ?_ (Below.mono (by assumption) (by first | exact Nat.le_refl _ | (simp; done) | (simp; omega) | omega))) | exact Below.refl _ _ | assumption)) (by repeat (first | (with_reducible exact Below.refl _ _) | (with_reducible assumption) | ((with_reducible refine Below.setCell ?_ ?_ _); rotate_left; · (first | exact Nat.le_refl _ | (simp; done) | (simp; omega) | omega)) | ((with_reducible refine Below.alloc ?_ ?_ _); rotate_left; · (first | exact Nat.le_refl _ | (simp; done) | (simp; omega) | omega)) | (with_reducible apply Below.drew) | (with_reducible apply below_drewN') | (refine Below.trans ?_ (Below.mono (by assumption) (by first | exact Nat.le_refl _ | (simp; done) | (simp; omega) | omega))) | exact Below.refl _ _ | assumption))
        case ca21R1 => (first | (simp [Act.put]; done) | (simp [Act.put, *]; done))
        try dsimp only
        refine wpW_det (t' := ?ct22R1) 22 (by rfl) (by kernel_rfl) (NQ_free _) (by kernel_rfl) ?cw22R1 ?ch22R1 ?ca22R1 (Eq.refl _) ?cH22R1
        case cw22R1 => (go_simp; done)
        case ch22R1 =>
          intro ds w' hS K hK
          have hc := (bcell hS).1
          have hf := (bcell hS).2
          have hz := hS.size
          try simp at hz
          go_simp
          try go_bits
          first
            | exact hK _ hS (Gr.refl _)
            | (go_at_call 22; refine (lawPoint_any _ _ _).mono ?_; rintro e w1 ⟨rfl, hB1⟩; obtain ⟨hc1, hf1⟩ := bcell hB1; have hz1 := hB1.size; (try simp at hz1); exact hK _ (Below.trans hS (Below.mono hB1 (by first | exact Nat.le_refl _ | (simp; done) | (simp; omega) | omega))) hB1)
            | exact hK _ (by repeat (first | (with_reducible exact Below.refl _ _) | (with_reducible assumption) | ((with_reducible refine Below.setCell ?_ ?_ _); rotate_left; · (first | exact Nat.le_refl _ | (simp; done) | (simp; omega) | omega)) | ((with_reducible refine Below.alloc ?_ ?_ _); rotate_left; · (first | exact Nat.le_refl _ | (simp; done) | (simp; omega) | omega)) | (with_reducible apply Below.drew) | (with_reducible apply below_drewN') | (refine Below.trans ?_ (Below.mono (by assumption) (by first | exact Nat.le_refl _ | (simp; done) | (simp; omega) | omega))) | exact Below.refl _ _ | assumption)) (by repeat (first | (with_reducible exact Below.refl _ _) | (with_reducible assumption) | ((with_reducible refine Below.setCell ?_ ?_ _); rotate_left; · (first | exact Nat.le_refl _ | (simp; done) | (simp; omega) | omega)) | ((with_reducible refine Below.alloc ?_ ?_ _); rotate_left; · (first | exact Nat.le_refl _ | (simp; done) | (simp; omega) | omega)) | (with_reducible apply Below.drew) | (with_reducible apply below_drewN') | (refine Below.trans ?_ (Below.mono (by assumption) (by first | exact Nat.le_refl _ | (simp; done) | (simp; omega) | omega))) | exact Below.refl _ _ | assumption))
        case ca22R1 => (first | (simp [Act.put]; done) | (simp [Act.put, *]; done))
        try dsimp only
        refine wpW_det (t' := ?ct23R1) 23 (by rfl) (by kernel_rfl) (NQ_free _) (by kernel_rfl) ?cw23R1 ?ch23R1 ?ca23R1 (Eq.refl _) ?cH23R1
        case cw23R1 => (go_simp; done)
        case ch23R1 =>
          intro ds w' hS K hK
          have hc := (bcell hS).1
          have hf := (bcell hS).2
          have hz := hS.size
          try simp at hz
          go_simp
          try go_bits
          first
            | exact hK _ hS (Gr.refl _)
            | (go_at_call 22; refine (lawPoint_any _ _ _).mono ?_; rintro e w1 ⟨rfl, hB1⟩; obtain ⟨hc1, hf1⟩ := bcell hB1; have hz1 := hB1.size; (try simp at hz1); exact hK _ (Below.trans hS (Below.mono hB1 (by first | exact Nat.le_refl _ | (simp; done) | (simp; omega) | omega))) hB1)
            | exact hK _ (by repeat (first | (with_reducible exact Below.refl _ _) | (with_reducible assumption) | ((with_reducible refine Below.setCell ?_ ?_ _); rotate_left; · (first | exact Nat.le_refl _ | (simp; done) | (simp; omega) | omega)) | ((with_reducible refine Below.alloc ?_ ?_ _); rotate_left; · (first | exact Nat.le_refl _ | (simp; done) | (simp; omega) | omega)) | (with_reducible apply Below.drew) | (with_reducible apply below_drewN') | (refine Below.trans ?_ (Below.mono (by assumption) (by first | exact Nat.le_refl _ | (simp; done) | (simp; omega) | omega))) | exact Below.refl _ _ | assumption)) (by repeat (first | (with_reducible exact Below.refl _ _) | (with_reducible assumption) | ((with_reducible refine Below.setCell ?_ ?_ _); rotate_left; · (first | exact Nat.le_refl _ | (simp; done) | (simp; omega) | omega)) | ((with_reducible refine Below.alloc ?_ ?_ _); rotate_left; · (first | exact Nat.le_refl _ | (simp; done) | (simp; omega) | omega)) | (with_reducible apply Below.drew) | (with_reducible apply below_drewN') | (refine Below.trans ?_ (Below.mono (by assumption) (by first | exact Nat.le_refl _ | (simp; done) | (simp; omega) | omega))) | exact Below.refl _ _ | assumption))
        case ca23R1 => (first | (simp [Act.put]; done) | (simp [Act.put, *]; done))
        try dsimp only
        refine wpW_det (t' := ?ct24R1) 24 (by rfl) (by kernel_rfl) (NQ_free _) (by kernel_rfl) ?cw24R1 ?ch24R1 ?ca24R1 (Eq.refl _) ?cH24R1
        case cw24R1 => (go_simp; done)
        case ch24R1 =>
          intro ds w' hS K hK
          have hc := (bcell hS).1
          have hf := (bcell hS).2
          have hz := hS.size
          try simp at hz
          go_simp
          try go_bits
          first
            | exact hK _ hS (Gr.refl _)
            | (go_at_call 22; refine (lawPoint_any _ _ _).mono ?_; rintro e w1 ⟨rfl, hB1⟩; obtain ⟨hc1, hf1⟩ := bcell hB1; have hz1 := hB1.size; (try simp at hz1); exact hK _ (Below.trans hS (Below.mono hB1 (by first | exact Nat.le_refl _ | (simp; done) | (simp; omega) | omega))) hB1)
            | exact hK _ (by repeat (first | (with_reducible exact Below.refl _ _) | (with_reducible assumption) | ((with_reducible refine Below.setCell ?_ ?_ _); rotate_left; · (first | exact Nat.le_refl _ | (simp; done) | (simp; omega) | omega)) | ((with_reducible refine Below.alloc ?_ ?_ _); rotate_left; · (first | exact Nat.le_refl _ | (simp; done) | (simp; omega) | omega)) | (with_reducible apply Below.drew) | (with_reducible apply below_drewN') | (refine Below.trans ?_ (Below.mono (by assumption) (by first | exact Nat.le_refl _ | (simp; done) | (simp; omega) | omega))) | exact Below.refl _ _ | assumption)) (by repeat (first | (with_reducible exact Below.refl _ _) | (with_reducible assumption) | ((with_reducible refine Below.setCell ?_ ?_ _); rotate_left; · (first | exact Nat.le_refl _ | (simp; done) | (simp; omega) | omega)) | ((with_reducible refine Below.alloc ?_ ?_ _); rotate_left; · (first | exact Nat.le_refl _ | (simp; done) | (simp; omega) | omega)) | (with_reducible apply Below.drew) | (with_reducible apply below_drewN') | (refine Below.trans ?_ (Below.mono (by assumption) (by first | exact Nat.le_refl _ | (simp; done) | (simp; omega) | omega))) | exact Below.refl _ _ | assumption))
        case ca24R1 => (first | (simp [Act.put]; done) | (simp [Act.put, *]; done))
        try dsimp only
        refine wpW_det (t' := ?ct25R1) 25 (by rfl) (by kernel_rfl) (NQ_free _) (by kernel_rfl) ?cw25R1 ?ch25R1 ?ca25R1 (Eq.refl _) ?cH25R1
        case cw25R1 => (go_simp; done)
        case ch25R1 =>
          intro ds w' hS K hK
          have hc := (bcell hS).1
          have hf := (bcell hS).2
          have hz := hS.size
          try simp at hz
          go_simp
          try go_bits
          first
            | exact hK _ hS (Gr.refl _)
            | (go_at_call 22; refine (lawPoint_any _ _ _).mono ?_; rintro e w1 ⟨rfl, hB1⟩; obtain ⟨hc1, hf1⟩ := bcell hB1; have hz1 := hB1.size; (try simp at hz1); exact hK _ (Below.trans hS (Below.mono hB1 (by first | exact Nat.le_refl _ | (simp; done) | (simp; omega) | omega))) hB1)
            | exact hK _ (by repeat (first | (with_reducible exact Below.refl _ _) | (with_reducible assumption) | ((with_reducible refine Below.setCell ?_ ?_ _); rotate_left; · (first | exact Nat.le_refl _ | (simp; done) | (simp; omega) | omega)) | ((with_reducible refine Below.alloc ?_ ?_ _); rotate_left; · (first | exact Nat.le_refl _ | (simp; done) | (simp; omega) | omega)) | (with_reducible apply Below.drew) | (with_reducible apply below_drewN') | (refine Below.trans ?_ (Below.mono (by assumption) (by first | exact Nat.le_refl _ | (simp; done) | (simp; omega) | omega))) | exact Below.refl _ _ | assumption)) (by repeat (first | (with_reducible exact Below.refl _ _) | (with_reducible assumption) | ((with_reducible refine Below.setCell ?_ ?_ _); rotate_left; · (first | exact Nat.le_refl _ | (simp; done) | (simp; omega) | omega)) | ((with_reducible refine Below.alloc ?_ ?_ _); rotate_left; · (first | exact Nat.le_refl _ | (simp; done) | (simp; omega) | omega)) | (with_reducible apply Below.drew) | (with_reducible apply below_drewN') | (refine Below.trans ?_ (Below.mono (by assumption) (by first | exact Nat.le_refl _ | (simp; done) | (simp; omega) | omega))) | exact Below.refl _ _ | assumption))
        case ca25R1 => (first | (simp [Act.put]; done) | (simp [Act.put, *]; done))
        try dsimp only
        refine wpW_det (t' := ?ct26R1) 26 (by rfl) (by kernel_rfl) (NQ_free _) (by kernel_rfl) ?cw26R1 ?ch26R1 ?ca26R1 (Eq.refl _) ?cH26R1
        case cw26R1 => (go_simp; done)
        case ch26R1 =>
          intro ds w' hS K hK
          have hc := (bcell hS).1
          have hf := (bcell hS).2
          have hz := hS.size
          try simp at hz
          go_simp
          try go_bits
          first
            | exact hK _ hS (Gr.refl _)
            | (go_at_call 22; refine (lawPoint_any _ _ _).mono ?_; rintro e w1 ⟨rfl, hB1⟩; obtain ⟨hc1, hf1⟩ := bcell hB1; have hz1 := hB1.size; (try simp at hz1); exact hK _ (Below.trans hS (Below.mono hB1 (by first | exact Nat.le_refl _ | (simp; done) | (simp; omega) | omega))) hB1)
            | exact hK _ (by repeat (first | (with_reducible exact Below.refl _ _) | (with_reducible assumption) | ((with_reducible refine Below.setCell ?_ ?_ _); rotate_left; · (first | exact Nat.le_refl _ | (simp; done) | (simp; omega) | omega)) | ((with_reducible refine Below.alloc ?_ ?_ _); rotate_left; · (first | exact Nat.le_refl _ | (simp; done) | (simp; omega) | omega)) | (with_reducible apply Below.drew) | (with_reducible apply below_drewN') | (refine Below.trans ?_ (Below.mono (by assumption) (by first | exact Nat.le_refl _ | (simp; done) | (simp; omega) | omega))) | exact Below.refl _ _ | assumption)) (by repeat (first | (with_reducible exact Below.refl _ _) | (with_reducible assumption) | ((with_reducible refine Below.setCell ?_ ?_ _); rotate_left; · (first | exact Nat.le_refl _ | (simp; done) | (simp; omega) | omega)) | ((with_reducible refine Below.alloc ?_ ?_ _); rotate_left; · (first | exact Nat.le_refl _ | (simp; done) | (simp; omega) | omega)) | (with_reducible apply Below.drew) | (with_reducible apply below_drewN') | (refine Below.trans ?_ (Below.mono (by assumption) (by first | exact Nat.le_refl _ | (simp; done) | (simp; omega) | omega))) | exact Below.refl _ _ | assumption))
        case ca26R1 => (first | (simp [Act.put]; done) | (simp [Act.put, *]; done))
        try dsimp only
        refine wpW_det (t' := ?ct27R1) 27 (by rfl) (by kernel_rfl) (NQ_free _) (by kernel_rfl) ?cw27R1 ?ch27R1 ?ca27R1 (Eq.refl _) ?cH27R1
        case cw27R1 => (go_simp; done)
        case ch27R1 =>
          intro ds w' hS K hK
          have hc := (bcell hS).1
          have hf := (bcell hS).2
          have hz := hS.size
          try simp at hz
          go_simp
          try go_bits
          first
            | exact hK _ hS (Gr.refl _)
            | (go_at_call 22; refine (lawPoint_any _ _ _).mono ?_; rintro e w1 ⟨rfl, hB1⟩; obtain ⟨hc1, hf1⟩ := bcell hB1; have hz1 := hB1.size; (try simp at hz1); exact hK _ (Below.trans hS (Below.mono hB1 (by first | exact Nat.le_refl _ | (simp; done) | (simp; omega) | omega))) hB1)
            | exact hK _ (by repeat (first | (with_reducible exact Below.refl _ _) | (with_reducible assumption) | ((with_reducible refine Below.setCell ?_ ?_ _); rotate_left; · (first | exact Nat.le_refl _ | (simp; done) | (simp; omega) | omega)) | ((with_reducible refine Below.alloc ?_ ?_ _); rotate_left; · (first | exact Nat.le_refl _ | (simp; done) | (simp; omega) | omega)) | (with_reducible apply Below.drew) | (with_reducible apply below_drewN') | (refine Below.trans ?_ (Below.mono (by assumption) (by first | exact Nat.le_refl _ | (simp; done) | (simp; omega) | omega))) | exact Below.refl _ _ | assumption)) (by repeat (first | (with_reducible exact Below.refl _ _) | (with_reducible assumption) | ((with_reducible refine Below.setCell ?_ ?_ _); rotate_left; · (first | exact Nat.le_refl _ | (simp; done) | (simp; omega) | omega)) | ((with_reducible refine Below.alloc ?_ ?_ _); rotate_left; · (first | exact Nat.le_refl _ | (simp; done) | (simp; omega) | omega)) | (with_reducible apply Below.drew) | (with_reducible apply below_drewN') | (refine Below.trans ?_ (Below.mono (by assumption) (by first | exact Nat.le_refl _ | (simp; done) | (simp; omega) | omega))) | exact Below.refl _ _ | assumption))
        case ca27R1 => (first | (simp [Act.put]; done) | (simp [Act.put, *]; done))
        try dsimp only
        refine wpW_det (t' := ?ct28R1) 28 (by rfl) (by kernel_rfl) (NQ_free _) (by kernel_rfl) ?cw28R1 ?ch28R1 ?ca28R1 (Eq.refl _) ?cH28R1
        case cw28R1 => (go_simp; done)
        case ch28R1 =>
          intro ds w' hS K hK
          have hc := (bcell hS).1
          have hf := (bcell hS).2
          have hz := hS.size
          try simp at hz
          go_simp
          try go_bits
          first
            | exact hK _ hS (Gr.refl _)
            | (go_at_call 22; refine (lawPoint_any _ _ _).mono ?_; rintro e w1 ⟨rfl, hB1⟩; obtain ⟨hc1, hf1⟩ := bcell hB1; have hz1 := hB1.size; (try simp at hz1); exact hK _ (Below.trans hS (Below.mono hB1 (by first | exact Nat.le_refl _ | (simp; done) | (simp; omega) | omega))) hB1)
            | exact hK _ (by repeat (first | (with_reducible exact Below.refl _ _) | (with_reducible assumption) | ((with_reducible refine Below.setCell ?_ ?_ _); rotate_left; · (first | exact Nat.le_refl _ | (simp; done) | (simp; omega) | omega)) | ((with_reducible refine Below.alloc ?_ ?_ _); rotate_left; · (first | exact Nat.le_refl _ | (simp; done) | (simp; omega) | omega)) | (with_reducible apply Below.drew) | (with_reducible apply below_drewN') | (refine Below.trans ?_ (Below.mono (by assumption) (by first | exact Nat.le_refl _ | (simp; done) | (simp; omega) | omega))) | exact Below.refl _ _ | assumption)) (by repeat (first | (with_reducible exact Below.refl _ _) | (with_reducible assumption) | ((with_reducible refine Below.setCell ?_ ?_ _); rotate_left; · (first | exact Nat.le_refl _ | (simp; done) | (simp; omega) | omega)) | ((with_reducible refine Below.alloc ?_ ?_ _); rotate_left; · (first | exact Nat.le_refl _ | (simp; done) | (simp; omega) | omega)) | (with_reducible apply Below.drew) | (with_reducible apply below_drewN') | (refine Below.trans ?_ (Below.mono (by assumption) (by first | exact Nat.le_refl _ | (simp; done) | (simp; omega) | omega))) | exact Below.refl _ _ | assumption))
        case ca28R1 => (first | (simp [Act.put]; done) | (simp [Act.put, *]; done))
        try dsimp only
        refine wpW_det (t' := ?ct29R1) 29 (by rfl) (by kernel_rfl) (NQ_free _) (by kernel_rfl) ?cw29R1 ?ch29R1 ?ca29R1 (Eq.refl _) ?cH29R1
        case cw29R1 => (go_simp; done)
        case ch29R1 =>
          intro ds w' hS K hK
          have hc := (bcell hS).1
          have hf := (bcell hS).2
          have hz := hS.size
          try simp at hz
          go_simp
          try go_bits
          first
            | exact hK _ hS (Gr.refl _)
            | (go_at_call 22; refine (lawPoint_any _ _ _).mono ?_; rintro e w1 ⟨rfl, hB1⟩; obtain ⟨hc1, hf1⟩ := bcell hB1; have hz1 := hB1.size; (try simp at hz1); exact hK _ (Below.trans hS (Below.mono hB1 (by first | exact Nat.le_refl _ | (simp; done) | (simp; omega) | omega))) hB1)
            | exact hK _ (by repeat (first | (with_reducible exact Below.refl _ _) | (with_reducible assumption) | ((with_reducible refine Below.setCell ?_ ?_ _); rotate_left; · (first | exact Nat.le_refl _ | (simp; done) | (simp; omega) | omega)) | ((with_reducible refine Below.alloc ?_ ?_ _); rotate_left; · (first | exact Nat.le_refl _ | (simp; done) | (simp; omega) | omega)) | (with_reducible apply Below.drew) | (with_reducible apply below_drewN') | (refine Below.trans ?_ (Below.mono (by assumption) (by first | exact Nat.le_refl _ | (simp; done) | (simp; omega) | omega))) | exact Below.refl _ _ | assumption)) (by repeat (first | (with_reducible exact Below.refl _ _) | (with_reducible assumption) | ((with_reducible refine Below.setCell ?_ ?_ _); rotate_left; · (first | exact Nat.le_refl _ | (simp; done) | (simp; omega) | omega)) | ((with_reducible refine Below.alloc ?_ ?_ _); rotate_left; · (first | exact Nat.le_refl _ | (simp; done) | (simp; omega) | omega)) | (with_reducible apply Below.drew) | (with_reducible apply below_drewN') | (refine Below.trans ?_ (Below.mono (by assumption) (by first | exact Nat.le_refl _ | (simp; done) | (simp; omega) | omega))) | exact Below.refl _ _ | assumption))
        case ca29R1 => (first | (simp [Act.put]; done) | (simp [Act.put, *]; done))
        try dsimp only
        refine wpW_det (t' := ?ct30R1) 30 (by rfl) (by kernel_rfl) (NQ_free _) (by kernel_rfl) ?cw30R1 ?ch30R1 ?ca30R1 (Eq.refl _) ?cH30R1
        case cw30R1 => (go_simp; done)
        case ch30R1 =>
          intro ds w' hS K hK
          have hc := (bcell hS).1
          have hf := (bcell hS).2
          have hz := hS.size
          try simp at hz
          go_simp
          try go_bits
          first
            | exact hK _ hS (Gr.refl _)
            | (go_at_call 22; refine (lawPoint_any _ _ _).mono ?_; rintro e w1 ⟨rfl, hB1⟩; obtain ⟨hc1, hf1⟩ := bcell hB1; have hz1 := hB1.size; (try simp at hz1); exact hK _ (Below.trans hS (Below.mono hB1 (by first | exact Nat.le_refl _ | (simp; done) | (simp; omega) | omega))) hB1)
            | exact hK _ (by repeat (first | (with_reducible exact Below.refl _ _) | (with_reducible assumption) | ((with_reducible refine Below.setCell ?_ ?_ _); rotate_left; · (first | exact Nat.le_refl _ | (simp; done) | (simp; omega) | omega)) | ((with_reducible refine Below.alloc ?_ ?_ _); rotate_left; · (first | exact Nat.le_refl _ | (simp; done) | (simp; omega) | omega)) | (with_reducible apply Below.drew) | (with_reducible apply below_drewN') | (refine Below.trans ?_ (Below.mono (by assumption) (by first | exact Nat.le_refl _ | (simp; done) | (simp; omega) | omega))) | exact Below.refl _ _ | assumption)) (by repeat (first | (with_reducible exact Below.refl _ _) | (with_reducible assumption) | ((with_reducible refine Below.setCell ?_ ?_ _); rotate_left; · (first | exact Nat.le_refl _ | (simp; done) | (simp; omega) | omega)) | ((with_reducible refine Below.alloc ?_ ?_ _); rotate_left; · (first | exact Nat.le_refl _ | (simp; done) | (simp; omega) | omega)) | (with_reducible apply Below.drew) | (with_reducible apply below_drewN') | (refine Below.trans ?_ (Below.mono (by assumption) (by first | exact Nat.le_refl _ | (simp; done) | (simp; omega) | omega))) | exact Below.refl _ _ | assumption))
        case ca30R1 => (first | (simp [Act.put]; done) | (simp [Act.put, *]; done))
        try dsimp only
        refine wpW_det (t' := ?ct31R1) 31 (by rfl) (by kernel_rfl) (NQ_free _) (by kernel_rfl) ?cw31R1 ?ch31R1 ?ca31R1 (Eq.refl _) ?cH31R1
        case cw31R1 => (go_simp; done)
        case ch31R1 =>
          intro ds w' hS K hK
          have hc := (bcell hS).1
          have hf := (bcell hS).2
          have hz := hS.size
          try simp at hz
          go_simp
          try go_bits
          first
            | exact hK _ hS (Gr.refl _)
            | (go_at_call 22; refine (lawPoint_any _ _ _).mono ?_; rintro e w1 ⟨rfl, hB1⟩; obtain ⟨hc1, hf1⟩ := bcell hB1; have hz1 := hB1.size; (try simp at hz1); exact hK _ (Below.trans hS (Below.mono hB1 (by first | exact Nat.le_refl _ | (simp; done) | (simp; omega) | omega))) hB1)
            | exact hK _ (by repeat (first | (with_reducible exact Below.refl _ _) | (with_reducible assumption) | ((with_reducible refine Below.setCell ?_ ?_ _); rotate_left; · (first | exact Nat.le_refl _ | (simp; done) | (simp; omega) | omega)) | ((with_reducible refine Below.alloc ?_ ?_ _); rotate_left; · (first | exact Nat.le_refl _ | (simp; done) | (simp; omega) | omega)) | (with_reducible apply Below.drew) | (with_reducible apply below_drewN') | (refine Below.trans ?_ (Below.mono (by assumption) (by first | exact Nat.le_refl _ | (simp; done) | (simp; omega) | omega))) | exact Below.refl _ _ | assumption)) (by repeat (first | (with_reducible exact Below.refl _ _) | (with_reducible assumption) | ((with_reducible refine Below.setCell ?_ ?_ _); rotate_left; · (first | exact Nat.le_refl _ | (simp; done) | (simp; omega) | omega)) | ((with_reducible refine Below.alloc ?_ ?_ _); rotate_left; · (first | exact Nat.le_refl _ | (simp; done) | (simp; omega) | omega)) | (with_reducible apply Below.drew) | (with_reducible apply below_drewN') | (refine Below.trans ?_ (Below.mono (by assumption) (by first | exact Nat.le_refl _ | (simp; done) | (simp; omega) | omega))) | exact Below.refl _ _ | assumption))
        case ca31R1 => (first | (simp [Act.put]; done) | (simp [Act.put, *]; done))
        try dsimp only
        refine wpW_det (t' := ?ct32R1) 32 (by rfl) (by kernel_rfl) (NQ_free _) (by kernel_rfl) ?cw32R1 ?ch32R1 ?ca32R1 (Eq.refl _) ?cH32R1
        case cw32R1 => (go_simp; done)
        case ch32R1 =>
          intro ds w' hS K hK
          have hc := (bcell hS).1
          have hf := (bcell hS).2
          have hz := hS.size
          try simp at hz
          go_simp
          try go_bits
          first
            | exact hK _ hS (Gr.refl _)
            | (go_at_call 22; refine (lawPoint_any _ _ _).mono ?_; rintro e w1 ⟨rfl, hB1⟩; obtain ⟨hc1, hf1⟩ := bcell hB1; have hz1 := hB1.size; (try simp at hz1); exact hK _ (Below.trans hS (Below.mono hB1 (by first | exact Nat.le_refl _ | (simp; done) | (simp; omega) | omega))) hB1)
            | exact hK _ (by repeat (first | (with_reducible exact Below.refl _ _) | (with_reducible assumption) | ((with_reducible refine Below.setCell ?_ ?_ _); rotate_left; · (first | exact Nat.le_refl _ | (simp; done) | (simp; omega) | omega)) | ((with_reducible refine Below.alloc ?_ ?_ _); rotate_left; · (first | exact Nat.le_refl _ | (simp; done) | (simp; omega) | omega)) | (with_reducible apply Below.drew) | (with_reducible apply below_drewN') | (refine Below.trans ?_ (Below.mono (by assumption) (by first | exact Nat.le_refl _ | (simp; done) | (simp; omega) | omega))) | exact Below.refl _ _ | assumption)) (by repeat (first | (with_reducible exact Below.refl _ _) | (with_reducible assumption) | ((with_reducible refine Below.setCell ?_ ?_ _); rotate_left; · (first | exact Nat.le_refl _ | (simp; done) | (simp; omega) | omega)) | ((with_reducible refine Below.alloc ?_ ?_ _); rotate_left; · (first | exact Nat.le_refl _ | (simp; done) | (simp; omega) | omega)) | (with_reducible apply Below.drew) | (with_reducible apply below_drewN') | (refine Below.trans ?_ (Below.mono (by assumption) (by first | exact Nat.le_refl _ | (simp; done) | (simp; omega) | omega))) | exact Below.refl _ _ | assumption))
        case ca32R1 => (first | (simp [Act.put]; done) | (simp [Act.put, *]; done))
        try dsimp only
        refine wpW_det (t' := ?ct33R1) 33 (by rfl) (by kernel_rfl) (NQ_free _) (by kernel_rfl) ?cw33R1 ?ch33R1 ?ca33R1 (Eq.refl _) ?cH33R1
        case cw33R1 => (go_simp; done)
        case ch33R1 =>
          intro ds w' hS K hK
          have hc := (bcell hS).1
          have hf := (bcell hS).2
          have hz := hS.size
          try simp at hz
          go_simp
          try go_bits
          first
            | exact hK _ hS (Gr.refl _)
            | (go_at_call 22; refine (lawPoint_any _ _ _).mono ?_; rintro e w1 ⟨rfl, hB1⟩; obtain ⟨hc1, hf1⟩ := bcell hB1; have hz1 := hB1.size; (try simp at hz1); exact hK _ (Below.trans hS (Below.mono hB1 (by first | exact Nat.le_refl _ | (simp; done) | (simp; omega) | omega))) hB1)
            | exact hK _ (by repeat (first | (with_reducible exact Below.refl _ _) | (with_reducible assumption) | ((with_reducible refine Below.setCell ?_ ?_ _); rotate_left; · (first | exact Nat.le_refl _ | (simp; done) | (simp; omega) | omega)) | ((with_reducible refine Below.alloc ?_ ?_ _); rotate_left; · (first | exact Nat.le_refl _ | (simp; done) | (simp; omega) | omega)) | (with_reducible apply Below.drew) | (with_reducible apply below_drewN') | (refine Below.trans ?_ (Below.mono (by assumption) (by first | exact Nat.le_refl _ | (simp; done) | (simp; omega) | omega))) | exact Below.refl _ _ | assumption)) (by repeat (first | (with_reducible exact Below.refl _ _) | (with_reducible assumption) | ((with_reducible refine Below.setCell ?_ ?_ _); rotate_left; · (first | exact Nat.le_refl _ | (simp; done) | (simp; omega) | omega)) | ((with_reducible refine Below.alloc ?_ ?_ _); rotate_left; · (first | exact Nat.le_refl _ | (simp; done) | (simp; omega) | omega)) | (with_reducible apply Below.drew) | (with_reducible apply below_drewN') | (refine Below.trans ?_ (Below.mono (by assumption) (by first | exact Nat.le_refl _ | (simp; done) | (simp; omega) | omega))) | exact Below.refl _ _ | assumption))
        case ca33R1 => (first | (simp [Act.put]; done) | (simp [Act.put, *]; done))
        try dsimp only
        refine wpW_det (t' := ?ct34R1) 34 (by rfl) (by kernel_rfl) (NQ_free _) (by kernel_rfl) ?cw34R1 ?ch34R1 ?ca34R1 (Eq.refl _) ?cH34R1
        case cw34R1 => (go_simp; done)
        case ch34R1 =>
          intro ds w' hS K hK
          have hc := (bcell hS).1
          have hf := (bcell hS).2
          have hz := hS.size
          try simp at hz
          go_simp
          try go_bits
          first
            | exact hK _ hS (Gr.refl _)
            | (go_at_call 22; refine (lawPoint_any _ _ _).mono ?_; rintro e w1 ⟨rfl, hB1⟩; obtain ⟨hc1, hf1⟩ := bcell hB1; have hz1 := hB1.size; (try simp at hz1); exact hK _ (Below.trans hS (Below.mono hB1 (by first | exact Nat.le_refl _ | (simp; done) | (simp; omega) | omega))) hB1)
            | exact hK _ (by repeat (first | (with_reducible exact Below.refl _ _) | (with_reducible assumption) | ((with_reducible refine Below.setCell ?_ ?_ _); rotate_left; · (first | exact Nat.le_refl _ | (simp; done) | (simp; omega) | omega)) | ((with_reducible refine Below.alloc ?_ ?_ _); rotate_left; · (first | exact Nat.le_refl _ | (simp; done) | (simp; omega) | omega)) | (with_reducible apply Below.drew) | (with_reducible apply below_drewN') | (refine Below.trans ?_ (Below.mono (by assumption) (by first | exact Nat.le_refl _ | (simp; done) | (simp; omega) | omega))) | exact Below.refl _ _ | assumption)) (by repeat (first | (with_reducible exact Below.refl _ _) | (with_reducible assumption) | ((with_reducible refine Below.setCell ?_ ?_ _); rotate_left; · (first | exact Nat.le_refl _ | (simp; done) | (simp; omega) | omega)) | ((with_reducible refine Below.alloc ?_ ?_ _); rotate_left; · (first | exact Nat.le_refl _ | (simp; done) | (simp; omega) | omega)) | (with_reducible apply Below.drew) | (with_reducible apply below_drewN') | (refine Below.trans ?_ (Below.mono (by assumption) (by first | exact Nat.le_refl _ | (simp; done) | (simp; omega) | omega))) | exact Below.refl _ _ | assumption))
        case ca34R1 => (first | (simp [Act.put]; done) | (simp [Act.put, *]; done))
        try dsimp only
        refine wpW_end (by kernel_rfl) ?_
        intro we9 hg hS
        unfold NQ
        dsimp only
        replace z := z.gr hS
        replace z19 := z19.gr hS
        replace hBB := hBB.trans (Below.mono hS (Below.size hBB))
        clear hg hS
        clear l_z v0 v1 v2 v3 l_z19 q0 q1 q2 q3
        have l_z := z.lt
        have l_z19 := z19.lt
        obtain ⟨v0, v1, v2, v3⟩ := blk4c z
        obtain ⟨q0, q1, q2, q3⟩ := blk4c z19
        go_wp2
        go_ret
        exact ⟨by simp, hBB⟩
      · subst hr
        go_wp2_with fail
        go_quiet (fail)
        go_wp2
        go_ret
        exact ⟨by simp, by repeat (first | exact hBB | apply below_drewN')⟩
end Go.Proofs.YtfbnpfhnffahdaaGreatDoor
