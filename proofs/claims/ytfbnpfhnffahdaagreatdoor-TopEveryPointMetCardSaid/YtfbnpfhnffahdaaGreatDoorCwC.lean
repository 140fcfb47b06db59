/- Contract of the reference's stretches: the same ranges as the program's. -/
import Derived.Test.YtfbnpfhnffahdaaGreatDoorCwB
namespace Go.Proofs.YtfbnpfhnffahdaaGreatDoor
open Go.RowKit

theorem nextS_snoc (slip reach at_ n : Int) (zs : List Int) (k : Nat) (h : k < zs.length) : CtPlain.nextS slip reach at_ n (zs.take (k + 1)) = CtPlain.nextP slip reach at_ (CtPlain.nextS slip reach at_ n (zs.take k)) zs[k] := by
  unfold CtPlain.nextS; rw [List.take_succ_eq_append_getElem h, List.foldl_append]; rfl

/-- The stretches that are scanned, or are not. -/
def strV (t : Tk) (zs : List Int) (sc : Bool) : List (Int × Int) := if sc then scanV t zs else anewV t zs
theorem str_end {t : Tk} {zs : List Int} {sc : Bool} {out : List (Int × Int)} (hft : t.frm ≤ t.til) (h : CtPlain.Upto t.frm (t.til + 1) (fun x => scB t zs x == sc) out) : out = strV t zs sc := by
  have hp : ∀ p, p ∈ sortV zs ↔ p ∈ zs := fun p => (List.mergeSort_perm zs _).mem_iff
  cases sc with
  | true =>
    refine CtPlain.upto_scan (sortV_sorted zs) hp (?_ : CtPlain.Upto t.frm (t.til + 1) (fun x => CtPlain.Sc t.slip t.reach zs x) out)
    have : (fun x => scB t zs x == true) = (fun x => CtPlain.Sc t.slip t.reach zs x) := by funext x; simp [scB]
    rw [← this]; exact h
  | false =>
    refine CtPlain.upto_anew hft (sortV_sorted zs) hp (?_ : CtPlain.Upto t.frm (t.til + 1) (fun x => !CtPlain.Sc t.slip t.reach zs x) out)
    have : (fun x => scB t zs x == false) = (fun x => !CtPlain.Sc t.slip t.reach zs x) := by funext x; simp [scB]
    rw [← this]; exact h

set_option maxRecDepth 100000 in
set_option maxHeartbeats 2000000 in
theorem stretches_any (t : Tk) (zs : List Int) (sc : Bool) (A : Option Addr) (c B : Nat) (w : World) (hz : InOk zs A c B w) (h0 : openE t zs = 0) :
    Calls Tryz.prog 30 #[.agg (tkC t), .slice A zs.length c, .bool sc] w fun e w' => ∃ v, e = .returned v ∧ w'.ownsRow w.heap.size 114 2 v (strV t zs sc).length (rngsC (strV t zs sc)) ∧ Below w.heap.size w w' := by
  have HZ := Lib.hid hz
  obtain ⟨z1, z2, hR, hB⟩ := hz
  obtain ⟨i0, hi, iz0, iz1, iz2⟩ := info_parts infoRange
  have H0 := Lib.hid h0
  obtain ⟨k0, k1, k2⟩ := openE_zero h0
  obtain ⟨T1, T2, T3, T4, T5⟩ := trackE_zero k0
  have K2 := Lib.hid k2; clear k2 h0 k0
  unfold tkC
  go_enter Tryz.func30, Tryz.ntmps30
  go_wp2
  go_loopw [7, 8] (fun v a wr => ∃ (out : List (Int × Int)) (at_ : Int), a = .int .i64 at_ ∧ t.frm ≤ at_ ∧ at_ ≤ t.til + 1 ∧ (out.length : Int) ≤ at_ - t.frm ∧ Hid (CtPlain.Upto t.frm at_ (fun x => scB t zs x == sc) out) ∧ wr.ownsRow (w.heap.size + 1) 114 2 v out.length (rngsC out) ∧ Blk wr w.heap.size 61 (tkC t) ∧ Below w.heap.size w wr) (fun _ a _ => (t.til + 1 - intOf a).toNat)
  case atStart => exact ⟨[], t.frm, rfl, Int.le_refl _, by omega, by simp, Lib.hid (CtPlain.Upto.nil _ _), ⟨rfl, .inl ⟨rfl, rfl⟩⟩, Blk.new _ _ _, (Below.refl _ _).alloc (Nat.le_refl _) _⟩
  case round =>
    obtain ⟨out, at_, rfl, ha, hb, hol, HU, own, b1, hBr⟩ := hrel
    have hsr := Below.size hBr
    have lb := b1.lt
    obtain ⟨t0, t1, t2, t3, _⟩ := blk4 b1
    by_cases hlt : at_ ≤ t.til
    · go_wp2_with fail
      refine (isScanned_any t zs at_ A c B _ ⟨HZ.out.len, HZ.out.i64, hR.below hBr hB, by omega⟩ H0.out).mono ?_
      rintro e w2 ⟨rfl, hB2⟩
      have b2 := b1.below hB2 lb
      have own2 := own_below own hB2
      have hBR := hBr.trans (hB2.mono hsr)
      have hs2 := Below.size hBR
      have l2 := b2.lt
      obtain ⟨u0, u1, u2, u3, _⟩ := blk4 b2
      clear t0 t1 t2 t3 own b1 hBr hB2 lb hsr
      go_wp2
      go_loopw [10, 11] (fun nx i wr => ∃ k : Nat, k ≤ zs.length ∧ i = .int .i64 k ∧ ∃ n : Int, nx = .int .i64 n ∧ Hid (n = CtPlain.nextS t.slip t.reach at_ (t.til + 1) (zs.take k)) ∧ at_ < n ∧ n ≤ t.til + 1 ∧ Below w2.heap.size w2 wr) (fun _ i _ => zs.length - (intOf i).toNat)
      case atStart => exact ⟨0, Nat.zero_le _, rfl, t.til + 1, rfl, Lib.hid rfl, by omega, Int.le_refl _, Below.refl _ _⟩
      case round =>
        obtain ⟨k, hk, rfl, n, rfl, HN, hn1, hn2, hBi⟩ := hrel
        have b3 := b2.below hBi l2
        have hsi := Below.size hBi
        have l3 := b3.lt
        obtain ⟨x0, x1, x2, x3, _⟩ := blk4 b3
        by_cases hlk : k < zs.length
        · obtain ⟨g, o, hA, hg, hcs⟩ := (hR.below (hBR.trans (hBi.mono hs2)) hB).2 (by omega)
          have c0 := hcs k _ (intsC_get zs k hlk)
          have hp := K2.out _ (List.getElem_mem hlk)
          have HS := Lib.hid (nextS_snoc t.slip t.reach at_ (t.til + 1) zs k hlk)
          have HL := Lib.hid (CtPlain.nextP_le t.slip t.reach at_ n zs[k])
          have HG := Lib.hid (CtPlain.nextP_gt t.slip t.reach at_ n zs[k] hn1)
          subst hA
          clear hcs u0 u1 u2 u3
          have lg : g < wr.heap.size := by omega
          have j0 : (0 : Int) ≤ (k : Int) := by omega
          have j1 : (k : Int) < (zs.length : Int) := by omega
          generalize zs[k] = p at *
          go_wp2_with fail
          refine wp_region_b 23 (by kernel_rfl) (by kernel_rfl) ?_; simp only [List.take, List.drop]
          repeat (first
            | (apply StepsD.run
               · go_simp
                 done
               · intro w' hS K hK
                 have hc := (bcell hS).1
                 have hf := (bcell hS).2
                 have hz := hS.size
                 try simp at hz
                 go_simp
                 try go_bits
                 first
                   | exact hK _ hS
                   | exact hK _ (by repeat (first | (with_reducible exact Below.refl _ _) | (with_reducible assumption) | ((with_reducible refine Below.setCell ?_ ?_ _); rotate_left; · (first | exact Nat.le_refl _ | (simp; done) | (simp; omega) | omega)) | ((with_reducible refine Below.alloc ?_ ?_ _); rotate_left; · (first | exact Nat.le_refl _ | (simp; done) | (simp; omega) | omega)) | (with_reducible apply Below.drew) | (with_reducible apply below_drewN') | (refine Below.trans ?_ (Below.mono (by assumption) (by first | exact Nat.le_refl _ | (simp; done) | (simp; omega) | omega))) | exact Below.refl _ _ | assumption))
               · simp [Act.put]
                 done)
            | (apply StepsD.pass
               · go_simp
                 done
               · simp only [Act.put, List.setIfInBounds_toArray, List.set_cons_succ, List.set_cons_zero]
                 rfl))
          refine StepsD.done ?_
          intro w4 hS
          have hB4 := hBi.trans (hS.mono hsi)
          clear x0 x1 x2 x3 c0
          by_cases q1 : at_ < p + t.slip - t.reach
          · by_cases q2 : at_ < p - t.slip + t.reach + 1
            · have HV : Hid (CtPlain.nextP t.slip t.reach at_ n p = min n (min (p + t.slip - t.reach) (p - t.slip + t.reach + 1))) := Lib.hid (by unfold CtPlain.nextP; simp only; rw [if_pos q1, if_pos q2]; omega)
              go_wp2
              go_roundw
              case rel => exact ⟨k + 1, by omega, by go_num, _, rfl, Lib.hid (by rw [HS.out, ← HN.out, HV.out]), by rw [← HV.out]; exact HG.out, by rw [← HV.out]; have := HL.out; omega, hB4⟩
              case measure => simp [intOf]; omega
            · have HV : Hid (CtPlain.nextP t.slip t.reach at_ n p = min n (p + t.slip - t.reach)) := Lib.hid (by unfold CtPlain.nextP; simp only; rw [if_pos q1, if_neg q2])
              go_wp2
              go_roundw
              case rel => exact ⟨k + 1, by omega, by go_num, _, rfl, Lib.hid (by rw [HS.out, ← HN.out, HV.out]), by rw [← HV.out]; exact HG.out, by rw [← HV.out]; have := HL.out; omega, hB4⟩
              case measure => simp [intOf]; omega
          · by_cases q2 : at_ < p - t.slip + t.reach + 1
            · have HV : Hid (CtPlain.nextP t.slip t.reach at_ n p = min n (p - t.slip + t.reach + 1)) := Lib.hid (by unfold CtPlain.nextP; simp only; rw [if_neg q1, if_pos q2])
              go_wp2
              go_roundw
              case rel => exact ⟨k + 1, by omega, by go_num, _, rfl, Lib.hid (by rw [HS.out, ← HN.out, HV.out]), by rw [← HV.out]; exact HG.out, by rw [← HV.out]; have := HL.out; omega, hB4⟩
              case measure => simp [intOf]; omega
            · have HV : Hid (CtPlain.nextP t.slip t.reach at_ n p = n) := Lib.hid (by unfold CtPlain.nextP; simp only; rw [if_neg q1, if_neg q2])
              go_wp2
              go_roundw
              case rel => exact ⟨k + 1, by omega, by go_num, _, rfl, Lib.hid (by rw [HS.out, ← HN.out, HV.out]), hn1, hn2, hB4⟩
              case measure => simp [intOf]; omega
        · obtain rfl : k = zs.length := by omega
          rw [List.take_length] at HN
          have HSM : Hid (∀ x, at_ ≤ x → x < n → scB t zs x = scB t zs at_) := Lib.hid fun x h1 h2 => CtPlain.sc_same t.slip t.reach at_ (t.til + 1) zs x h1 (by rw [← HN.out]; exact h2)
          have own3 := own_below own2 (hBi)
          have hB3 := hBR.trans (hBi.mono hs2)
          have hs3 := Below.size hB3
          generalize scB t zs at_ = sb at *
          clear u0 u1 u2 u3 hBi own2 hBR hs2
          cases hbs : (sb == sc)
          · have HT : Hid (∀ x, at_ ≤ x → x < n → (fun x => scB t zs x == sc) x = false) := Lib.hid fun x h1 h2 => by simp only; rw [HSM.out x h1 h2]; exact hbs
            go_wp2
            go_roundw
            case rel => exact ⟨out, n, rfl, by omega, hn2, by omega, Lib.hid (HU.out.skip hn1 HT.out), own3, b3, hB3⟩
            case measure => simp [intOf]; omega
          · have HT : Hid (∀ x, at_ ≤ x → x < n → (fun x => scB t zs x == sc) x = true) := Lib.hid fun x h1 h2 => by simp only; rw [HSM.out x h1 h2]; exact hbs
            have HA := Lib.hid (HU.out.add ha hn1 HT.out)
            obtain ⟨A10, cap10, hv10, hn10, hc10⟩ := own_shape own3
            subst hv10
            rcases List.eq_nil_or_concat out with rfl | ⟨l, q, rfl⟩
            · simp only [List.length_nil] at *
              rw [CtPlain.addS_nil] at HA
              go_wp2_with (at_builtin; refine wpList_append_own _ rfl _ _ 63 rfl (w.heap.size + 1) 114 i0 (.agg #[.int .i64 0, .int .i64 0]) 2 16 Tryz.underlying63 hi iz0 iz1 iz2 rfl (by decide) _ _ _ rfl (own3.alloc _) ⟨wr.heap.size, 0, none⟩ 1 1 [.int .i64 at_, .int .i64 (n - 1)] rfl rfl ?c1A ?c2A ?c3A ?c4A ?c5A ?_)
              case c1A =>
                intro j u hu
                rw [Addr.add_lit, Nat.zero_add, (Blk.new wr 114 #[.int .i64 at_, .int .i64 (n - 1)]).cell j, List.getElem?_toArray]
                exact hu
              case c2A => simp [Value.oneCell']
              case c3A => unfold maxLen; omega
              case c4A => omega
              case c5A => simp; omega
              intro v' w5 own5 hgrow _
              have hB5 : Below w.heap.size w w5 := below_own (hB3.alloc hs3 _) (Nat.le_succ _) (own3.alloc _) hgrow
              have b5 := (b3.alloc _).grown hgrow (own_ne (own3.alloc (.cells #[.int .i64 at_, .int .i64 (n - 1)] 114 (0, 0))) (.inl (Nat.lt_succ_self _)))
              go_wp2
              go_roundw
              case rel => exact ⟨_, n, rfl, by omega, hn2, by simp; omega, HA, own5, b5, hB5⟩
              case measure => simp [intOf]; omega
            · rw [List.concat_eq_append] at *
              obtain ⟨g10, rfl, hg10, hg10l, hcs, hfz⟩ := hc10 (by simp)
              have hqc : wr.cell? ⟨g10, l.length * 2 + 1, none⟩ = some (.int .i64 q.2) := by
                rw [hcs _ (by simp; omega)]
                exact (rngsC_get (l ++ [q]) l.length q (by simp)).2
              have hqf := hfz (l.length * 2 + 1)
              have hll : (l ++ [q]).length = l.length + 1 := by simp
              have own3o := own3
              rw [hll] at own3 hn10 hol
              have hlm : l.length + 1 ≤ 1000001 := by omega
              clear hcs hfz hc10
              have k1 : (0 : Int) ≤ (l.length : Int) := by omega
              have k2 : (l.length : Int) < (l.length : Int) + 1 := by omega
              by_cases hj : q.2 = at_ - 1
              · rw [CtPlain.addS_join hj] at HA
                have hjb : (q.2 == at_ - 1) = true := by simpa using hj
                have own4 := own3.stored (l.length * 2 + 1) (.int .i64 (n - 1))
                go_wp2
                go_roundw
                case rel => exact ⟨_, n, rfl, by omega, hn2, by simp; omega, HA, by rw [← rngsC_set_last, show (l ++ [(q.1, n - 1)]).length = l.length + 1 by simp, hll]; exact own4.1, b3.far (by simp; omega) _, hB3.setCell (by simp; omega) _⟩
                case measure => simp [intOf]; omega
              · rw [CtPlain.addS_far hj] at HA
                have hjb : (q.2 == at_ - 1) = false := by simpa using hj
                go_wp2_with (at_builtin; refine wpList_append_own _ rfl _ _ 63 rfl (w.heap.size + 1) 114 i0 (.agg #[.int .i64 0, .int .i64 0]) 2 16 Tryz.underlying63 hi iz0 iz1 iz2 rfl (by decide) _ _ _ rfl (own3o.alloc _) ⟨wr.heap.size, 0, none⟩ 1 1 [.int .i64 at_, .int .i64 (n - 1)] rfl rfl ?c1B ?c2B ?c3B ?c4B ?c5B ?_)
                case c2B => simp [Value.oneCell']
                case c3B => unfold maxLen; omega
                case c4B => omega
                intro v' w5 own5 hgrow _
                have hB5 : Below w.heap.size w w5 := below_own (hB3.alloc hs3 _) (Nat.le_succ _) (own3.alloc _) hgrow
                have b5 := (b3.alloc _).grown hgrow (own_ne (own3.alloc (.cells #[.int .i64 at_, .int .i64 (n - 1)] 114 (0, 0))) (.inl (Nat.lt_succ_self _)))
                go_wp2
                go_roundw
                case rel => exact ⟨_, n, rfl, by omega, hn2, by simp; omega, HA, by rw [rngsC_append, show (l ++ [q] ++ [(at_, n - 1)]).length = l.length + 1 + 1 by simp]; exact own5, b5, hB5⟩
                case measure => simp [intOf]; omega
    · obtain rfl : at_ = t.til + 1 := by omega
      have HE := Lib.hid (str_end T5 HU.out)
      go_wp2
      go_ret
      exact ⟨_, rfl, by rw [← HE.out]; exact own.mono (Nat.le_succ _), hBr⟩
end Go.Proofs.YtfbnpfhnffahdaaGreatDoor
