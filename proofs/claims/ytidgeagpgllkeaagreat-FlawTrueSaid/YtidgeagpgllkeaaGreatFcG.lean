/- Contract: a group is struck out of a slice of groups. -/
import Derived.Test.YtidgeagpgllkeaaGreatFcF
import Derived.ArgAppend
namespace Go.Proofs.YtidgeagpgllkeaaGreat
open Go.RowKit

theorem Blk.setCells {g : Nat} {t : TypeId} : ∀ (vs : List Value) (o : Nat) {w : World} {cs : Array Value}, Blk w g t cs → o + vs.length ≤ cs.size →
    ∃ cs', Blk (w.setCells g o vs) g t cs' ∧ cs'.size = cs.size ∧ ∀ j, cs'[j]? = if o ≤ j ∧ j < o + vs.length then vs[j - o]? else cs[j]?
  | [], o, w, cs, h, _ => ⟨cs, h, rfl, fun j => by rw [if_neg (by simp only [List.length_nil]; omega)]⟩
  | v :: r, o, w, cs, h, hl => by
    simp only [List.length_cons] at hl
    obtain ⟨cs', h1, h2, h3⟩ := Blk.setCells r (o + 1) (h.set_ o v) (by rw [Array.size_setIfInBounds]; omega)
    refine ⟨cs', h1, by rw [h2, Array.size_setIfInBounds], fun j => ?_⟩
    rw [h3 j, Array.getElem?_setIfInBounds]
    simp only [List.length_cons]
    by_cases e : j = o
    · subst e
      rw [if_neg (by omega), if_pos rfl, if_pos (by omega), if_pos (by omega)]; simp
    · by_cases h4 : o + 1 ≤ j ∧ j < o + 1 + r.length
      · rw [if_pos h4, if_pos (by omega), show j - o = (j - (o + 1)) + 1 by omega]; simp
      · rw [if_neg h4, if_neg (by omega), if_neg (by omega)]
theorem only_setCells {a : World} {g : Nat} : ∀ (vs : List Value) (o : Nat) {w : World}, a.grownBy w (some g) → a.grownBy (w.setCells g o vs) (some g)
  | [], _, _, h => h
  | v :: r, o, w, h => only_setCells r (o + 1) (only_setCell (p := ⟨g, o, none⟩) h (.inl rfl) v)

section
variable {P : Program} {ops : Array Oper} {rest : List Oper} {o : Oper} {a : Act} {w : World} {Q : Exit → Act → World → Prop}
theorem wpList_append_room (hg : o.guard = none) (s x : Operand) (t : TypeId) (hop : o.op = Op.call { callee := Callee.builtin Builtin.append, args := #[s, x], argTypes := #[t, t] })
    (e : TypeId) (i : TypeInfo) (size : Nat) (h1 : P.underlying t = some (.slice e)) (h2 : P.info? e = some i) (h4 : i.size = size)
    (b off n cap : Nat) (hs : a.eval s = .slice (some ⟨b, off, none⟩) n cap)
    (ad : Addr) (m c : Nat) (news : List Value) (hx : a.eval x = .slice (some ad) m c) (hn : news.length = m * size) (hc : ∀ j u, news[j]? = some u → w.cell? (ad.add j) = some u) (h1c : ∀ u ∈ news, u.oneCell' = true)
    (hroom : n + m ≤ cap) (hspare : ∀ j, j < news.length → (w.cell? ⟨b, off + n * size + j, none⟩).isSome = true ∧ w.frozen? ⟨b, off + n * size + j, none⟩ = false)
    (hK : wpList P ops Q rest (a.put o.dst (.slice (some ⟨b, off, none⟩) (n + m) cap)) (w.setCells b (off + n * size) news)) : wpList P ops Q (o :: rest) a w :=
  wpList_plain hg fun K hk => by
    subst h4
    have hrun := run_append_room_cells (P := P) w t o.type e i h1 h2 b off n cap ad m c news hn hc h1c hroom (fun j hj => (hspare j hj).1) (fun j hj => (hspare j hj).2)
    unfold Oper.wp
    simp [execOp, hop, resolve, invoke, builtin, hs, hx, hrun, Result.andThen]
    exact hk _ _ hK
end
/-- 'clear' of one element of several cells. -/
theorem run_clear_one {P : Program} (w : World) (t e ty : TypeId) (z : Value) (h1 : P.underlying t = some (.slice e)) (hv : ∀ w, (zeroValue e).run P w = .ok z w)
    (b off c : Nat) (zs : List Value) (hz : (Builtin.zeroCells z.cells 1).toList = zs) (h1c : ∀ u ∈ zs, u.oneCell' = true)
    (hspare : ∀ j, j < zs.length → (w.cell? ⟨b, off + j, none⟩).isSome = true ∧ w.frozen? ⟨b, off + j, none⟩ = false) :
    (Builtin.clear_ #[t] ty #[.slice (some ⟨b, off, none⟩) 1 c]).run P w = .ok (.tuple #[]) (w.setCells b off zs) := by
  have hst := run_storeCells_cells (P := P) b off zs 0 w (by simpa using fun j hj => (hspare j hj).1) (by simpa using fun j hj => (hspare j hj).2) h1c
  simp only [Nat.add_zero] at hst
  simp [Builtin.clear_, run_underlying h1, hv, hz, hst]

theorem infoGroup : (Tryz.prog.info? 164).map (fun i => (i.zero, i.size, i.bytes)) = some (some (.agg #[.slice none 0 0, .string ⟨#[]⟩, .int .i64 0, .int .i64 0, .int .i64 0, .int .i64 0, .int .i64 0]), 7, 80) := by kernel_rfl

set_option maxRecDepth 100000 in
set_option maxHeartbeats 1000000 in
theorem delete_any (l : List Gp) (k : Nat) (hk : k < l.length) (hn : l.length ≤ 1000000) (base : Nat) (v : Value) (h1 : Hid (∀ u ∈ gpsC l, u.oneCell' = true)) (w : World) (hown : w.ownsRow base 164 7 v l.length (gpsC l)) :
    Calls Tryz.prog 104 #[v, .int .i64 k, .int .i64 (k + 1)] w fun e w' => ∃ v', e = .returned v' ∧ w'.ownsRow base 164 7 v' (l.eraseIdx k).length (gpsC (l.eraseIdx k)) ∧ w.grownBy w' v.ownBlock ∧ v'.ownBlock = v.ownBlock := by
  rcases hown.2 with ⟨rfl, h0⟩ | ⟨g, cap, cur, rfl, hb, hh, hnc, hcm, hsz, htk⟩
  · omega
  · have b0 : Blk w g 164 cur := hh
    have hcm' : cap ≤ 9223372036854775807 := by unfold maxLen at hcm; omega
    go_enter Tryz.func104, Tryz.ntmps104
    have i1 : (k : Int) ≤ (cap : Int) := by omega
    have i2 : (k : Int) + 1 ≤ (l.length : Int) := by omega
    have i3 : (l.length : Int) ≤ (cap : Int) := by omega
    have i4 : k ≤ cap := by omega
    have i5 : k + 1 ≤ l.length := by omega
    have e16 : ((k : Int) == (k : Int) + 1) = false := by simp; omega
    go_wp2_with fail
    refine wp_region_b 6 (by kernel_rfl) (by kernel_rfl) ?_; simp only [List.take, List.drop]
    repeat (first
      | (apply StepsD.run
         · go_simp
           done
         · intro w' hS K hK
           have hc := (bcell hS).1
           have hf := (bcell hS).2
           have hz := hS.size
           try simp at hz
           go_simp
           try go_bits
           first
             | exact hK _ hS
             | exact hK _ (by repeat (first | (with_reducible exact Below.refl _ _) | (with_reducible assumption) | ((with_reducible refine Below.setCell ?_ ?_ _); rotate_left; · (first | exact Nat.le_refl _ | (simp; done) | (simp; omega) | omega)) | ((with_reducible refine Below.alloc ?_ ?_ _); rotate_left; · (first | exact Nat.le_refl _ | (simp; done) | (simp; omega) | omega)) | (with_reducible apply Below.drew) | (with_reducible apply below_drewN') | (refine Below.trans ?_ (Below.mono (by assumption) (by first | exact Nat.le_refl _ | (simp; done) | (simp; omega) | omega))) | exact Below.refl _ _ | assumption))
         · simp [Act.put]
           done)
      | (apply StepsD.pass
         · go_simp
           done
         · simp only [Act.put, List.setIfInBounds_toArray, List.set_cons_succ, List.set_cons_zero]
           rfl))
    refine StepsD.done ?_
    intro W hS
    have b1 := b0.gr hS
    have hgw : w.grownBy W (some g) := only_of_below hS _
    obtain ⟨N, hN⟩ : ∃ N, l.length = N + 1 := ⟨l.length - 1, by omega⟩
    have hcells : ∀ j, j < l.length * 7 → W.cell? ⟨g, j, none⟩ = (gpsC l)[j]? := fun j hj => by
      rw [b1.cell j, ← htk, List.getElem?_take_of_lt hj, Array.getElem?_toList]
    obtain ⟨news, hnews⟩ : ∃ news, gpsC (l.drop (k + 1)) = news := ⟨_, rfl⟩
    have hlen : news.length = (l.length - (k + 1)) * 7 := by rw [← hnews, gpsC_length, List.length_drop]
    have hsplit : gpsC l = gpsC (l.take (k + 1)) ++ news := by rw [← hnews, ← gpsC_append, List.take_append_drop]
    have hl1 : (gpsC (l.take (k + 1))).length = (k + 1) * 7 := by rw [gpsC_length, List.length_take, Nat.min_eq_left (by omega)]
    have hget : ∀ j, (gpsC l)[(k + 1) * 7 + j]? = news[j]? := fun j => by
      rw [hsplit, List.getElem?_append_right (by omega), hl1]; congr 1; omega
    obtain ⟨A, hA, hsrc⟩ : ∃ A : Addr, (if cap = k + 1 then some (⟨g, 0, none⟩ : Addr) else some ⟨g, (k + 1) * 7, none⟩) = some A ∧ Hid (∀ j u, news[j]? = some u → W.cell? (A.add j) = some u) := by
      by_cases h : cap = k + 1
      · refine ⟨⟨g, 0, none⟩, by simp [h], Lib.hid (fun j u hu => ?_)⟩
        have h0 : news.length = 0 := by rw [hlen]; omega
        rw [List.length_eq_zero_iff.1 h0] at hu
        simp at hu
      · refine ⟨⟨g, (k + 1) * 7, none⟩, by simp [h], Lib.hid (fun j u hu => ?_)⟩
        have hj : j < news.length := (List.getElem?_eq_some_iff.1 hu).1
        rw [Addr.add_lit, hcells _ (by omega), hget, hu]
    have hone : Hid (∀ u ∈ news, u.oneCell' = true) := Lib.hid (fun u hu => h1.out u (by rw [hsplit]; exact List.mem_append_right _ hu))
    have hsp : Hid (∀ j, j < news.length → (W.cell? ⟨g, 0 + k * 7 + j, none⟩).isSome = true ∧ W.frozen? ⟨g, 0 + k * 7 + j, none⟩ = false) := Lib.hid (fun j hj => by
      rw [b1.cell]
      refine ⟨?_, b1.frozen _⟩
      rw [Array.getElem?_eq_getElem (by omega)]
      rfl)
    rw [hA]
    simp only [Act.put, List.setIfInBounds_toArray, List.set_cons_succ, List.set_cons_zero]
    obtain ⟨i0, hi, hz0, hz1, hz2⟩ := info_parts infoGroup
    obtain ⟨cur1, d1, dsz1, dget1⟩ := Blk.setCells news (0 + k * 7) b1 (by omega)
    have hgw1 := only_setCells news (0 + k * 7) hgw
    refine wpList_append_room rfl (.tmp 22) (.tmp 25) 162 rfl 164 i0 7 Tryz.underlying162 hi hz1 g 0 k cap rfl A (l.length - (k + 1)) _ news rfl hlen hsrc.out hone.out (by omega) hsp.out ?_
    obtain ⟨W1, hW1⟩ : ∃ W1, W.setCells g (0 + k * 7) news = W1 := ⟨_, rfl⟩
    rw [hW1] at d1 hgw1 ⊢
    rw [show k + (l.length - (k + 1)) = N by omega, hN]
    have hzc : Hid (∀ j, j < 7 → (W1.cell? ⟨g, N * 7 + j, none⟩).isSome = true ∧ W1.frozen? ⟨g, N * 7 + j, none⟩ = false) := Lib.hid (fun j hj => by
      rw [d1.cell]
      refine ⟨?_, d1.frozen _⟩
      rw [Array.getElem?_eq_getElem (by omega)]
      rfl)
    have j1 : (N : Int) + 1 ≤ (cap : Int) := by omega
    have j2 : N + 1 ≤ cap := by omega
    have j3 : ((N + 1 : Nat) : Int) = (N : Int) + 1 := by omega
    have j4 : N ≤ cap := by omega
    have j5 : (N : Int) ≤ (cap : Int) := by omega
    rw [j3]
    obtain ⟨cur2, d2, dsz2, dget2⟩ := Blk.setCells [.slice none 0 0, .string ⟨#[]⟩, .int .i64 0, .int .i64 0, .int .i64 0, .int .i64 0, .int .i64 0] (N * 7) d1 (by simp only [List.length_cons, List.length_nil]; omega)
    have hgw2 := only_setCells [.slice none 0 0, .string ⟨#[]⟩, .int .i64 0, .int .i64 0, .int .i64 0, .int .i64 0, .int .i64 0] (N * 7) hgw1
    have D2 := Lib.hid d2
    have G1 := Lib.hid dget1; have G2 := Lib.hid dget2; have HGET := Lib.hid hget; have HTK := Lib.hid htk
    clear hsrc hone hsp hcells hA hh hown b0 b1 hS hgw hW1 d2 dget1 dget2 hget htk d1 i2 i3 i5
    have hclr := run_clear_one (P := Tryz.prog) W1 162 164 0 _ Tryz.underlying162 Tryz.zeroValue164 g (N * 7) (cap - N) [.slice none 0 0, .string ⟨#[]⟩, .int .i64 0, .int .i64 0, .int .i64 0, .int .i64 0, .int .i64 0] (by kernel_rfl) (by simp [Value.oneCell']) hzc.out
    obtain ⟨W2, hW2⟩ : ∃ W2, W1.setCells g (N * 7) [.slice none 0 0, .string ⟨#[]⟩, .int .i64 0, .int .i64 0, .int .i64 0, .int .i64 0, .int .i64 0] = W2 := ⟨_, rfl⟩
    rw [hW2] at hclr hgw2 D2
    clear hW2 hzc
    go_wp2
    go_ret
    refine ⟨_, rfl, ?_, hgw2, rfl⟩
    have he : (l.eraseIdx k).length = N := by rw [List.length_eraseIdx_of_lt hk]; omega
    rw [he]
    have hes : gpsC (l.eraseIdx k) = gpsC (l.take k) ++ news := by rw [List.eraseIdx_eq_take_drop_succ, gpsC_append, hnews]
    refine ⟨by rw [gpsC_length, he], .inr ⟨g, cap, cur2, rfl, hb, D2.out, j4, hcm, by omega, ?_⟩⟩
    apply List.ext_getElem?
    intro j
    have htl : (gpsC (l.take k)).length = k * 7 := by rw [gpsC_length, List.length_take, Nat.min_eq_left (by omega)]
    have hsp2 : gpsC l = gpsC (l.take k) ++ gpsC (l.drop k) := by rw [← gpsC_append, List.take_append_drop]
    by_cases hj : j < N * 7
    · rw [List.getElem?_take_of_lt hj, Array.getElem?_toList, G2.out j, if_neg (by omega), G1.out j, hes]
      by_cases hjk : j < k * 7
      · rw [if_neg (by omega), List.getElem?_append_left (by omega), ← Array.getElem?_toList, ← List.getElem?_take_of_lt (show j < l.length * 7 by omega), HTK.out, hsp2, List.getElem?_append_left (by omega)]
      · rw [if_pos (by omega), List.getElem?_append_right (by omega), htl, Nat.zero_add]
    · rw [List.getElem?_eq_none (by rw [List.length_take]; omega), List.getElem?_eq_none (by rw [gpsC_length, he]; omega)]
end Go.Proofs.YtidgeagpgllkeaaGreat
