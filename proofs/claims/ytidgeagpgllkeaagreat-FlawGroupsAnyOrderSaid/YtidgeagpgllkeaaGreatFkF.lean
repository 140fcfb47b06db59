/- The law FlawGroupsAnyOrder answers true. -/
import Derived.Test.YtidgeagpgllkeaaGreatFkH
namespace Go.Proofs.YtidgeagpgllkeaaGreat
open Go.RowKit Go.Shelf

set_option maxRecDepth 100000 in
set_option maxHeartbeats 16000000 in
theorem flawGroupsAnyOrder_any (l : List Mk) (A : Option Addr) (c : Nat) (r : Ru) (zs : List Int) (A2 : Option Addr) (c2 : Nat) (w : World) (hn : l.length ≤ 9223372036854775807) (hR : Row w w.heap.size 6 A l.length (mksC l)) (hsz : Hid (∀ m ∈ l, m.nm.size ≤ 9223372036854775807)) (hc : l.length ≤ c) (hA : A = none → c = 0) (hrn : W64 r.num) (hrd : W64 r.den) (hzR : Row w w.heap.size 1 A2 zs.length (intsC zs)) (hzl : zs.length ≤ 9223372036854775807) :
    Calls Tryz.prog 8 #[.slice A l.length c, .agg (ruC r), .slice A2 zs.length c2] w fun e w' => e = .returned (.bool true) ∧ Below w.heap.size w w' := by
  have HA := Lib.hid hA; clear hA
  have HRN := Lib.hid hrn; have HRD := Lib.hid hrd
  clear hrn hrd
  have b3 := Blk.new w 62 (ruC r)
  have hBB : Below w.heap.size w (w.alloc (.cells (ruC r) 62)) := (by repeat (first | (with_reducible exact Below.refl _ _) | (with_reducible assumption) | ((with_reducible refine Below.setCell ?_ ?_ _); rotate_left; · (first | exact Nat.le_refl _ | (simp; done) | (simp; omega) | omega)) | ((with_reducible refine Below.alloc ?_ ?_ _); rotate_left; · (first | exact Nat.le_refl _ | (simp; done) | (simp; omega) | omega)) | (with_reducible apply Below.drew) | (with_reducible apply below_drewN') | (refine Below.trans ?_ (Below.mono (by assumption) (by first | exact Nat.le_refl _ | (simp; done) | (simp; omega) | omega))) | exact Below.refl _ _ | assumption))
  go_enter Tryz.func8, Tryz.ntmps8
  go_wp2_with fail
  obtain ⟨W, hW⟩ : ∃ W, w.alloc (.cells (ruC r) 62) = W := ⟨_, rfl⟩
  rw [hW] at b3 hBB ⊢
  clear hW
  refine (awake_any _).mono ?_
  rintro e w1 ⟨rfl, hB1⟩
  replace b3 := b3.gr hB1
  replace hBB := hBB.trans (hB1.mono (Below.size hBB))
  clear hB1
  have l_b3 := b3.lt
  obtain ⟨c0, c1, c2, c3, f3⟩ := blk4r b3
  by_cases h8 : 8 < l.length
  · have h8' : ((8 : Int) < (l.length : Int)) := by omega
    go_wp2
    go_ret
    exact ⟨rfl, hBB⟩
  by_cases hlen : zs.length = l.length
  case neg =>
    have hq : ((zs.length : Int) != (l.length : Int)) = true := by simp; omega
    have h8' : ¬ ((8 : Int) < (l.length : Int)) := by omega
    go_wp2
    go_ret
    exact ⟨rfl, hBB⟩
  have HLEN := Lib.hid hlen
  rw [hlen] at hzR ⊢
  clear hlen
  have hq : ((l.length : Int) != (l.length : Int)) = false := by simp
  have h8' : ¬ ((8 : Int) < (l.length : Int)) := by omega
  have MW : MkWide l A w.heap.size w := ⟨by omega, hR, hsz.out⟩
  obtain ⟨E1, hE1⟩ : ∃ E, (marksE l).1 = E := ⟨_, rfl⟩
  obtain ⟨E2, hE2⟩ : ∃ E, (marksE l).2 = E := ⟨_, rfl⟩
  obtain ⟨ER, hER⟩ : ∃ E, ruleE r = E := ⟨_, rfl⟩
  have HE1 := Lib.hid hE1; have HE2 := Lib.hid hE2; have HER := Lib.hid hER
  clear hE1 hE2 hER
  go_wp2_with fail
  refine (refCheckMarks_wide l A c w.heap.size _ (MW.below hBB (Nat.le_refl _)) (Below.size hBB)).mono ?_
  rw [HE1.out, HE2.out]
  rintro e wc1 ⟨rfl, hBc1⟩
  replace b3 := b3.gr hBc1
  replace hBB := hBB.trans (Below.mono hBc1 (Below.size hBB))
  clear hBc1
  clear l_b3 c0 c1 c2 c3 f3
  have l_b3 := b3.lt
  obtain ⟨c0, c1, c2, c3, f3⟩ := blk4r b3
  by_cases h0 : E2 = 0
  case neg =>
    have h1 : (E2 != 0) = true := by simpa using h0
    go_wp2
    go_ret
    exact ⟨by first | rfl | (simp; done), hBB⟩
  subst h0
  go_wp2_with fail
  refine (refCheckRule_any r HRN.out HRD.out _).mono ?_
  rw [HER.out]
  rintro e wc2 ⟨rfl, hBc2⟩
  replace b3 := b3.gr hBc2
  replace hBB := hBB.trans (Below.mono hBc2 (Below.size hBB))
  clear hBc2
  clear l_b3 c0 c1 c2 c3 f3
  have l_b3 := b3.lt
  obtain ⟨c0, c1, c2, c3, f3⟩ := blk4r b3
  by_cases h0 : ER = 0
  case neg =>
    have h1 : (ER != 0) = true := by simpa using h0
    go_wp2
    go_ret
    exact ⟨by first | rfl | (simp; done), hBB⟩
  subst h0
  have HMR := Lib.hid (marksR HE2.out)
  have HRS := Lib.hid (ruleE_zero HER.out)
  have HSZ : Hid (∀ m ∈ l, m.nm.size ≤ 1000000000000) := Lib.hid (fun m hm => (HMR.out m hm).name)
  have hl : MkOk l A w.heap.size w := ⟨by omega, hR, HSZ.out⟩
  clear MW hsz h8
  obtain ⟨V, hV⟩ : ∃ V, wc2 = V := ⟨_, rfl⟩
  rw [hV] at b3 hBB l_b3 c0 c1 c2 c3 f3 ⊢
  clear hV
  have hwV := Below.size hBB
  go_wp2
  clear c0 c1 c2 c3 f3 l_b3
  go_loopw [9, 10, 11] (fun s9 s10 s11 wr => ∃ (k : Nat) (pl : List Int) (ot : List Mk) (v9 v10 : Value), k ≤ l.length ∧ s9 = v9 ∧ s10 = v10 ∧ s11 = .int .i64 k ∧ Hid (pl.length = k ∧ PlO l pl ot) ∧ OrdM V pl ot v9 v10 wr) (fun _ _ s11 _ => l.length - (intOf s11).toNat)
  case atStart => exact ⟨0, [], [], _, _, Nat.zero_le _, rfl, rfl, rfl, Lib.hid ⟨rfl, PlO.start l⟩, ⟨World.ownsRow_nil _ _ _ _, World.ownsRow_nil _ _ _ _, Below.refl _ _⟩⟩
  case round =>
    obtain ⟨k, pl, ot, v9, v10, hk, rfl, rfl, rfl, HP, M⟩ := hrel
    have hpk : pl.length ≤ 8 := by rw [HP.out.1]; omega
    have hok : ot.length ≤ 8 := by rw [HP.out.2.len]; exact hpk
    have hMB := M.below
    have hzM := Below.size hMB
    by_cases hlt : k < l.length
    · have hzr := hzR.below (hBB.trans (hMB.mono hwV)) (Nat.le_refl _)
      rw [← HLEN.out] at hzr
      obtain ⟨gz, oz, hAz, hgz, z0⟩ := intAtQ hzr (by rw [HLEN.out]; exact hlt)
      obtain ⟨z, hz⟩ : ∃ z, zs[k]'(by rw [HLEN.out]; exact hlt) = z := ⟨_, rfl⟩
      rw [hz] at z0
      clear hz hzr
      subst hAz
      obtain ⟨f, hf, hfm⟩ := HP.out.2.free (by rw [HP.out.1]; exact hlt)
      have HFM := Lib.hid hfm; clear hfm
      obtain ⟨Ap, cp, rfl, hRp, _, _⟩ := own_row2 M.own10
      obtain ⟨n0, hn0, hn0l⟩ : ∃ n : Nat, z % (l.length : Int) = (n : Int) ∧ n < l.length := ⟨(z % (l.length : Int)).toNat, by
        have := Int.emod_nonneg z (show (l.length : Int) ≠ 0 by omega)
        omega, by
        have h1 := Int.emod_nonneg z (show (l.length : Int) ≠ 0 by omega)
        have h2 := Int.emod_lt_of_pos z (show 0 < (l.length : Int) by omega)
        omega⟩
      have HN0 := Lib.hid hn0; clear hn0
      have hgw : gz < wr.heap.size := by omega
      have i1 : ((k : Int) < (l.length : Int)) := by omega
      have hgl : (1 : Int) ≤ (l.length : Int) ∧ (l.length : Int) ≤ 4000000000000000000 := by omega
      go_wp2_with (go_at_call 24; refine (mod_any z (l.length : Int) hgl _).mono ?_; rw [HN0.out]; rintro e w1 ⟨rfl, rfl⟩)
      clear z0
      go_loopw [12] (fun s12 wq => ∃ n : Nat, n < l.length ∧ s12 = .int .i64 n ∧ wr = wq) (fun s12 _ => dstN l.length f (intOf s12))
      case atStart => exact ⟨n0, hn0l, rfl, rfl⟩
      case round =>
        obtain ⟨n, hn', rfl, rfl⟩ := hrel
        cases hin : pl.contains (n : Int)
        case true =>
          have HIN := Lib.hid hin
          have hne : n ≠ f := fun e => HFM.out (by rw [← e]; exact List.contains_iff_mem.1 hin)
          clear hin
          have HD := Lib.hid (nextN_dst hn' hf hne)
          have HNX := Lib.hid (nextN_mod hn')
          go_wp2_with (first
            | (go_at_call 45; refine (bHas_any pl Ap cp _ n _ hRp (by omega) (Nat.le_refl _)).mono ?_; rw [HIN.out]; rintro e w1 ⟨rfl, rfl⟩)
            | (go_at_call 24; refine (mod_any _ _ hgl _).mono ?_; rw [HNX.out]; rintro e w1 ⟨rfl, rfl⟩))
          exact ⟨⟨nextN l.length n, HD.out.1, rfl, by first | trivial | rfl⟩, HD.out.2⟩
        case false =>
          have HIN := Lib.hid hin; clear hin
          have hnm : Hid ((n : Int) ∉ pl) := Lib.hid (fun h => by have := List.contains_iff_mem.2 h; rw [HIN.out] at this; cases this)
          go_upto_region 16 with (go_at_call 45; refine (bHas_any pl Ap cp _ n _ hRp (by omega) (Nat.le_refl _)).mono ?_; rw [HIN.out]; rintro e w1 ⟨rfl, rfl⟩)
          refine ordReg16 l A c w.heap.size (hR.below (hBB.trans (hMB.mono hwV)) (Nat.le_refl _)) hwV M hn' (by omega) (by omega) (by omega) _ ?_
          intro t73 t74 t75 t76 t77 t78 t79 t80 t81 t82 t83 u9 u10 w16 M'
          try dsimp only
          have HPS : Hid ((pl ++ [(n : Int)]).length = k + 1 ∧ PlO l (pl ++ [(n : Int)]) (ot ++ [l[n]])) := Lib.hid ⟨by have := HP.out.1; simp; omega, HP.out.2.snoc hn' hnm.out⟩
          clear M hMB hRp HIN hnm HP HFM
          go_wp2
          exact ⟨⟨k + 1, _, _, _, _, by omega, rfl, rfl, by go_num, HPS, M'⟩, by simp [intOf]; omega⟩
    · obtain rfl : k = l.length := by omega
      have HMV := Lib.hid (HP.out.2.moved HP.out.1)
      have hol : ot.length = l.length := HMV.out.len
      have hpl : pl.length = l.length := HP.out.1
      have HOL := Lib.hid hol; have HPL := Lib.hid hpl
      obtain ⟨A10, c10, rfl, hR10, _, _⟩ := own_row2 M.own10
      obtain ⟨A9, c9, rfl, hR9, hc9, _⟩ := own_row2 M.own9
      have hot : MkOk ot A9 wr.heap.size wr := ⟨by omega, hR9, fun m hm => HSZ.out m (HMV.out.mem m hm)⟩
      have hOZ : Hid ((marksE ot).2 = 0) := Lib.hid (by rw [HMV.out.marks HE2.out])
      have HGZ := Lib.hid (groupedE_zero HE2.out HER.out)
      have HGZ2 := Lib.hid (groupedE_zero hOZ.out HER.out)
      replace b3 := b3.gr hMB
      replace hBB := hBB.trans (hMB.mono hwV)
      have hwr := Below.size hBB
      clear M hMB hzM hwV HP hpk hR9 hol hpl hok
      go_upto_region 17 with fail
      refine grpReg17 l A c w.heap.size r (Lib.hid (fun w' h => hl.below (hBB.trans (h.mono hwr)) (Nat.le_refl _))) hwr hc HA (by omega) HSZ b3 HRN HRD HGZ HRS _ ?_
      intro t84 t85 t86 t87 t88 t89 t90 AG cG BG Ds w17 hresG hG hBG hB17
      try dsimp only
      have HRG := Lib.hid hresG
      obtain ⟨hdl, hdq⟩ := res_short hresG
      replace b3 := b3.gr hB17
      replace hBB := hBB.trans (hB17.mono hwr)
      replace hot := hot.below hB17 (Nat.le_refl _)
      replace hR10 := hR10.below hB17 (Nat.le_refl _)
      have hw17 := Below.size hB17
      clear hresG hB17
      obtain ⟨c0, c1, c2, c3, f3⟩ := blk4r b3
      have l_b3 := b3.lt
      go_wp2_with fail
      refine (grouped_ok ot A9 c9 _ r _ hot hc9 hw17 HRN.out HRD.out HGZ2.out).mono ?_
      rintro e w18 ⟨vH, Es, rfl, hperm, hpw, ownH, eachH, hB18⟩
      have hresH : ResG ot r (Es.map (·.ns)) := (groups_gi HRS.out).res hperm (List.pairwise_map.2 (hpw.imp (fun h => h)))
      have HRH := Lib.hid hresH
      obtain ⟨hel, heq⟩ := res_short hresH
      obtain ⟨AH, cH, rfl, hH⟩ := own_rws ownH eachH
      have hw18 := Below.size hB18
      replace b3 := b3.gr hB18
      replace hBB := hBB.trans (hB18.mono (Below.size hBB))
      replace hR10 := hR10.below hB18 hw17
      replace hG := hG.below hB18 hBG
      have hBG2 := Nat.le_trans hBG hw18
      have HSG := Lib.hid (sameG HMV.out HRG.out HRH.out)
      clear ownH eachH hperm hpw hB18 hot c0 c1 c2 c3 f3 l_b3
      have hEL : Es.length = Ds.length := by
        have := HSG.out.len HMV.out.ord HRG.out.canon (by rw [← HOL.out]; exact HRH.out.canon)
        simpa using this.symm
      have HEL := Lib.hid hEL
      have hq2 : ((Ds.length : Int) != (Es.length : Int)) = false := by rw [hEL]; simp
      have hgt : ¬ ((l.length : Int) < (Ds.length : Int)) := by omega
      have HDN : Hid (∀ q ∈ Ds, q.ns.length ≤ 8) := Lib.hid (fun q hq => by have := hdq q hq; omega)
      have HEN : Hid (∀ q ∈ Es, q.ns.length ≤ 8) := Lib.hid (fun q hq => by have := heq q hq; have := HOL.out; omega)
      have hBB18 := Below.size hBB
      clear hEL hdq heq hel
      go_upto_region 21 with fail
      refine makeReg21 (by omega) _ ?_
      intro t117 t118 t119 t120 t121 t122 p q w21 own1 own2 hpq hB21
      try dsimp only
      have M : FilM w18 p q l.length (List.replicate l.length 0) (List.replicate l.length 0) w21 := ⟨own1, own2, hB21⟩
      have hl3 := ordLoop3 (A := A) (c := c) (V := w18) (wr0 := w21) (G := List.replicate l.length 0) (G' := List.replicate l.length 0) (c10 := c10) (cG := cG) (cH := cH) hpq hR10 (by omega) (Lib.hid HMV.out.ord) hG hBG2 (Lib.hid HRG.out.canon) hH (Nat.le_refl _) (Lib.hid (by rw [← HOL.out]; exact HRH.out.canon)) (by omega) (by omega) HEL HDN HEN (Lib.hid (FillI.start _ _ _)) (Lib.hid (FillI.start _ _ _))
      go_wp2
      unfold bodyOf at hl3
      conv at hl3 in (Option.getD _ Code.skip) => whnf
      refine hl3 M _ ?_
      clear hl3 M own1 own2 hB21
      intro t6 t19 t20 t21 t123 t124 t125 t126 t127 t128 t129 t130 t131 t132 t133 t134 t135 t136 t137 t138 t139 t140 t141 t142 t143 t144 t145 t146 t147 t148 t149 t150 t151 t152 t153 t154 t155 t156 t157 t158 t159 t160 t161 t162 t163 t164 t165 t166 t167 t168 t169 t170 t171 t172 t173 t174 t175 t176 t177 t178 t179 t180 t181 t182 t183 t184 t185 t186 t187 t188 t189 t190 t191 t192 t193 t194 t195 t196 t197 t198 t199 t200 t201 t202 t203 t204 t205 t206 t207 t208 t209 G1 G2 w3 HG1 HG2 M
      have HS : Hid (∀ i k : Nat, i < l.length → k < l.length → ∃ fi fk si sk : Int, G1[i]? = some fi ∧ G1[k]? = some fk ∧ G2[i]? = some si ∧ G2[k]? = some sk ∧ fi ≠ 0 ∧ si ≠ 0 ∧ (fi = fk ↔ si = sk)) := Lib.hid (fun i k hi hk => fill_same HMV.out.ord HRG.out.canon (by rw [← HOL.out]; exact HRH.out.canon) HSG.out (by rw [List.length_map]; exact HG1.out) (by rw [List.length_map]; exact HG2.out) hi hk)
      have hl6 := fun (h8 : l.length ≤ 8) => @ordLoop6 l A c w18 w3 p q G1 G2 M HS h8
      go_wp2
      unfold bodyOf at hl6
      conv at hl6 in (Option.getD _ Code.skip) => whnf
      refine hl6 (by omega) _ ?_
      clear hl6 M HS HG1 HG2
      intro t6 t22 t23 t210 t211 t212 t213 t214 t215 t216 t217 t218 t219 t220 t221 t222 t223 t224 t225 t226 t227 t228 t229 t230 t231 t232 t233 t234 t235 t236 t237 t238 t239 t240 t241 t242 t243 t244 t245 t246 t247 t248 t249 t250 t251 t252 t253 w4 M
      have hx := M.below
      have hl8 := ordLoop8 l A c w.heap.size r (V := w18) (wr0 := w4) (hl.below hBB (Nat.le_refl _)) hBB18 b3 HRN HRD HER HMR (cG := cG) hG hBG2 HRG (by omega) HDN
      clear M
      go_wp2
      unfold bodyOf at hl8
      conv at hl8 in (Option.getD _ Code.skip) => whnf
      refine hl8 hx _ ?_
      clear hl8 hx
      intro t6 t24 t25 t26 t27 t254 t255 t256 t257 t258 t259 t260 t261 t262 t263 t264 t265 t266 t267 t268 t269 t270 t271 t272 t273 t274 t275 t276 t277 t278 t279 t280 t281 t282 t283 t284 t285 t286 w5 hx
      go_wp2
      go_ret
      exact ⟨by first | rfl | (simp; done), hBB.trans (hx.mono hBB18)⟩
end Go.Proofs.YtidgeagpgllkeaaGreat
