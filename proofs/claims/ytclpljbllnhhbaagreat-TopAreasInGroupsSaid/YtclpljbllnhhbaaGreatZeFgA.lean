/- Contract: copies of scans. -/
import Derived.Test.YtclpljbllnhhbaaGreatZeFeA
import Derived.Test.YtclpljbllnhhbaaGreatZeFeB
import Derived.Test.YtclpljbllnhhbaaGreatZeFaH
namespace Go.Proofs.YtclpljbllnhhbaaGreat
open Go.RowKit

/-- A scan, but for where its data lie. -/
def Sc.core (s : Sc) : Int × Int × Int × Int × List Int := (s.row, s.col, s.rows, s.cols, s.data)
theorem infoScan : (Tryz.prog.info? 32).map (fun i => (i.zero, i.size, i.bytes)) = some (some (.agg #[.int .i64 0, .int .i64 0, .int .i64 0, .int .i64 0, .slice none 0 0]), 5, 56) := by kernel_rfl
theorem scsC_one (l : List Sc) : ∀ u ∈ scsC l, u.oneCell' = true := by
  intro u hu
  simp only [scsC, List.mem_flatMap] at hu
  obtain ⟨m, _, hm⟩ := hu
  simp at hm
  rcases hm with rfl | rfl | rfl | rfl | rfl <;> rfl
theorem scsC_set : ∀ (L : List Sc) (k : Nat) (s : Sc), L[k]? = some s → ∀ (A : Option Addr) (c : Nat), scsC (L.set k { s with dA := A, dcap := c }) = (scsC L).set (k * 5 + 4) (.slice A s.data.length c)
  | [], k, s, h, _, _ => by simp at h
  | q :: L, 0, s, h, A, c => by obtain rfl : q = s := by simpa using h
                                simp [scsC]
  | q :: L, k + 1, s, h, A, c => by
    have ih := scsC_set L k s (by simpa using h) A c
    simp only [scsC, List.set_cons_succ, List.flatMap_cons] at ih ⊢
    rw [ih, List.set_append_right _ _ (by simp; omega)]
    congr 2
    simp; omega
theorem own_row2 {w : World} {base e size n : Nat} {v : Value} {xs : List Value} (h : w.ownsRow base e size v n xs) : ∃ A cap, v = .slice A n cap ∧ Row w w.heap.size size A n xs ∧ n ≤ cap ∧ (A = none → cap = 0) := by
  rcases h.2 with ⟨rfl, h0⟩ | ⟨g, cap, cur, rfl, hb, hh, hc, _⟩
  · subst h0
    obtain rfl : xs = [] := List.eq_nil_of_length_eq_zero (by have := h.1; simpa using this)
    exact ⟨none, 0, rfl, Row.nil_, Nat.le_refl _, fun _ => rfl⟩
  · refine ⟨_, cap, rfl, ⟨h.1, fun hn => ⟨g, 0, rfl, (Array.getElem?_eq_some_iff.1 hh).1, fun j u hj => ?_⟩⟩, hc, fun h => by cases h⟩
    have := h.cells (g := g) rfl j u hj
    rwa [Addr.add_lit] at this
/-- The copy, of which the first k scans have data of their own. -/
structure CpI (w : World) (l : List Sc) (v : Value) (k : Nat) (L : List Sc) (W : World) : Prop where
  core : L.map Sc.core = l.map Sc.core
  rest : ∀ j, k ≤ j → L[j]? = l[j]?
  row : W.ownsRow w.heap.size 32 5 v l.length (scsC L)
  each : ∀ j (h : j < L.length), j < k → W.ownsRow w.heap.size 3 1 (.slice L[j].dA L[j].data.length L[j].dcap) L[j].data.length (intsC L[j].data)
  below : Below w.heap.size w W
theorem CpI.len {w W : World} {l L : List Sc} {v : Value} {k : Nat} (h : CpI w l v k L W) : L.length = l.length := by
  have := congrArg List.length h.core; simpa using this

set_option maxRecDepth 100000 in
set_option maxHeartbeats 4000000 in
theorem copyScans_any (l : List Sc) (A : Option Addr) (c B : Nat) (w : World) (hl : ScOk l A B w) (hc : l.length ≤ c) (hB : B ≤ w.heap.size) (hA : A = none → c = 0) (hd : Hid (∀ s ∈ l, s.data.length ≤ s.dcap ∧ (s.dA = none → s.dcap = 0))) :
    Calls Tryz.prog 14 #[.slice A l.length c] w fun e w' => ∃ v L, e = .returned v ∧ L.map Sc.core = l.map Sc.core ∧ w'.ownsRow w.heap.size 32 5 v l.length (scsC L) ∧
      (∀ s ∈ L, w'.ownsRow w.heap.size 3 1 (.slice s.dA s.data.length s.dcap) s.data.length (intsC s.data)) ∧ Below w.heap.size w w' := by
  obtain ⟨i0, hi, iz0, iz1, iz2⟩ := info_parts infoScan
  have hlen := hl.len
  have own : (w.alloc (.cells #[] 32)).ownsRow w.heap.size 32 5 (.slice (some ⟨w.heap.size, 0, none⟩) 0 0) 0 [] := World.ownsRow_made w #[] 0 (Nat.le_refl _) (by simp [maxLen]) (by simp)
  cases A with
  | none =>
    have h0 : l.length = 0 := by
      rcases Nat.eq_zero_or_pos l.length with h | h
      · exact h
      · obtain ⟨_, _, h, _⟩ := hl.row.2 h; cases h
    have hn : l = [] := List.eq_nil_of_length_eq_zero h0
    subst hn
    rw [hA rfl]
    go_enter Tryz.func14, Tryz.ntmps14
    go_wp2_with (at_builtin; refine wpList_append_own_none rfl _ _ 22 rfl w.heap.size 32 i0 5 Tryz.underlying22 hi _ _ _ rfl own rfl ?_)
    go_wp2
    go_loopw [4] (fun i wr => i = .int .i64 0 ∧ wr = (w.alloc (.cells #[] 32))) (fun i _ => 0)
    case atStart => exact ⟨rfl, rfl⟩
    case round =>
      obtain ⟨rfl, rfl⟩ := hrel
      go_wp2
      go_ret
      exact ⟨_, [], rfl, rfl, own, by simp, (Below.refl _ _).alloc (Nat.le_refl _) _⟩
  | some a =>
    have hone := Lib.hid (scsC_one l)
    have HD := Lib.hid hd.out
    go_enter Tryz.func14, Tryz.ntmps14
    go_wp2_with (at_builtin; refine wpList_append_own _ rfl _ _ 22 rfl w.heap.size 32 i0 (.agg #[.int .i64 0, .int .i64 0, .int .i64 0, .int .i64 0, .slice none 0 0]) 5 56 Tryz.underlying22 hi iz0 iz1 iz2 rfl (by decide) _ _ _ rfl own a l.length c (scsC l) rfl (scsC_length l) ?c1 ?c2 ?c3 ?c4 ?c5 ?_)
    case c1 => exact (row_cells (hl.row.alloc hB _))
    case c2 => exact hone.out
    case c3 => unfold maxLen; omega
    case c4 => omega
    case c5 => simp
    intro v3 w3 own3 hgrow _
    have hB3 : Below w.heap.size w w3 := below_own ((Below.refl _ _).alloc (Nat.le_refl _) _) (Nat.le_refl _) own hgrow
    have I0 : CpI w l v3 0 l w3 := ⟨rfl, fun _ _ => rfl, by simpa using own3, fun j _ h => absurd h (by omega), hB3⟩
    obtain ⟨A3, c3, rfl, _, _, _⟩ := own_row2 I0.row
    clear own3 hgrow hB3 own
    go_wp2
    go_loopw [4] (fun i wr => ∃ (k : Nat) (L : List Sc), k ≤ l.length ∧ i = .int .i64 k ∧ CpI w l (.slice A3 l.length c3) k L wr) (fun i _ => l.length - (intOf i).toNat)
    case atStart => exact ⟨0, l, Nat.zero_le _, rfl, I0⟩
    case round =>
      clear I0
      obtain ⟨k, L, hk, rfl, I⟩ := hrel
      by_cases hlt : k < l.length
      · obtain ⟨g, cap, hv, hbase, hgl⟩ := I.row.form (by omega)
        obtain ⟨rfl, rfl⟩ : A3 = some ⟨g, 0, none⟩ ∧ c3 = cap := by injection hv with h1 h2 h3; exact ⟨h1, h3⟩
        clear hv
        have hl' := hl.below I.below hB
        obtain ⟨gg, oo, hA', hgg, _, _, _, _, q4⟩ := scCells hl'.row hlt
        have hmem := List.getElem_mem hlt
        have hdat := hl.data _ hmem
        have hds := hl.size _ hmem
        obtain ⟨hdc, hda⟩ := HD.out _ hmem
        have hLk : L[k]? = some l[k] := by rw [I.rest k (Nat.le_refl _), List.getElem?_eq_getElem hlt]
        have HST : Hid (∀ (An : Option Addr) (cn : Nat) (W : World), W.ownsRow w.heap.size 32 5 (.slice (some ⟨g, 0, none⟩) l.length c3) l.length ((scsC L).set (k * 5 + 4) (.slice An l[k].data.length cn)) →
            W.ownsRow w.heap.size 3 1 (.slice An l[k].data.length cn) l[k].data.length (intsC l[k].data) → (∀ j (h : j < L.length), j < k → W.ownsRow w.heap.size 3 1 (.slice L[j].dA L[j].data.length L[j].dcap) L[j].data.length (intsC L[j].data)) → Below w.heap.size w W →
            ∃ L', CpI w l (.slice (some ⟨g, 0, none⟩) l.length c3) (k + 1) L' W) := Lib.hid (fun An cn W h1 h2 h3 h4 => by
          have hkL : k < L.length := (List.getElem?_eq_some_iff.1 hLk).1
          refine ⟨L.set k { l[k] with dA := An, dcap := cn }, ?_, fun j hj => ?_, ?_, fun j hj hjk => ?_, h4⟩
          · rw [List.map_set]
            have : (Sc.core { l[k] with dA := An, dcap := cn }) = (L.map Sc.core)[k]'(by simpa using hkL) := by
              have := (List.getElem?_eq_some_iff.1 hLk).2
              simp only [List.getElem_map, this]; rfl
            rw [this, List.set_getElem_self, I.core]
          · rw [List.getElem?_set_ne (by omega)]; exact I.rest j (by omega)
          · rw [scsC_set L k l[k] hLk]; exact h1
          · by_cases e : j = k
            · subst e; rw [List.getElem_set_self]; exact h2
            · rw [List.getElem_set_ne (by omega)]
              exact h3 j (by simpa using hj) (by omega))
        have hcell : (scsC L)[k * 5 + 4]? = some (.slice l[k].dA l[k].data.length l[k].dcap) := (scsC_get L k l[k] hLk).2.2.2.2
        have hLl := I.len
        generalize l[k].data = d at *
        generalize l[k].dA = dA at *
        generalize l[k].dcap = dc at *
        obtain rfl : a = ⟨gg, oo, none⟩ := Option.some.inj hA'
        have hzb := Below.size I.below
        have hkI : (k : Int) < (l.length : Int) := by omega
        have hk0 : (0 : Int) ≤ (k : Int) := by omega
        go_wp2_with fail
        refine (copyInts_any d dA dc B _ (hdat.below I.below hB) hds hdc (by omega) hda).mono ?_
        rintro e ws1 ⟨vn, rfl, own, hBs⟩
        obtain ⟨An, cn, rfl, _, _, _⟩ := own_row2 own
        have row3 := own_below I.row hBs
        have own3 := own.mono (base' := w.heap.size) hzb
        have each3 := fun j h hjk => own_below (I.each j h hjk) hBs
        have hB2 := I.below.trans (hBs.mono hzb)
        have hce := (row3.cellAt (k * 5 + 4) (by omega)).trans hcell
        have hfr := row3.frozenAt (k * 5 + 4)
        have hgl2 : g < ws1.heap.size := World.block_lt_of_cell? _ _ hce
        clear own hBs
        obtain ⟨row4, hgr⟩ := row3.stored (k * 5 + 4) (.slice An d.length cn)
        have own4 := own3.kept hgr (own_two own3 row3 (by decide))
        have each4 := fun j h hjk => (each3 j h hjk).kept hgr (own_two (each3 j h hjk) row3 (by decide))
        have hB4 := below_only hB2 hgr (Below.size hB2) hbase
        obtain ⟨L', I'⟩ := HST.out An cn _ row4 own4 each4 hB4
        clear row3 own3 each3 hB2 hgr row4 own4 each4 hB4 HST I
        go_wp2
        exact ⟨⟨k + 1, L', by omega, by go_num, I'⟩, by simp [intOf]; omega⟩
      · obtain rfl : k = l.length := by omega
        have hLl := I.len
        go_wp2
        go_ret
        refine ⟨_, L, rfl, I.core, I.row, fun s hs => ?_, I.below⟩
        obtain ⟨j, hj, rfl⟩ := List.getElem_of_mem hs
        exact I.each j hj (by omega)
end Go.Proofs.YtclpljbllnhhbaaGreat
