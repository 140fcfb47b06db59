/- Contracts: the examples of chapter 7 that the programs through the layers ask; the reference's error of set-ups; copies of set-ups; right joints and plans. Contracts: what set-ups meet of each face; whether a plan covers a joint. -/
import Derived.Test.YtlnkgjkjdllckaaGreatDoorZpCxA
import Derived.Test.YtlnkgjkjdllckaaGreatDoorZpCvY
namespace Go.Proofs.YtlnkgjkjdllckaaGreatDoor
open Go.RowKit

set_option maxRecDepth 100000 in
set_option maxHeartbeats 4000000 in
theorem covering_any (w : World) (hE : Ends w) : Calls Tryz.prog 4 #[] w fun e w' => e = .returned (.bool true) ∧ Below w.heap.size w w' := by
  have HE := Lib.hid hE; clear hE
  go_enter Tryz.func4, Tryz.ntmps4
  go_wp2_with fail
  refine (slant_any _).mono ?_
  rintro e w1 ⟨A1, c1, rfl, hj1, hB1⟩
  go_wp2_with fail
  refine (direct_any _).mono ?_
  rintro e w2 ⟨rfl, hB2⟩
  unfold suC dirN dirS
  have hA2 : Below w.heap.size w w2 := hB1.trans (hB2.mono hB1.size)
  go_wp2_with fail
  refine (partOf_any slantJ 0 dirN dirS A1 c1 _ w2 (hj1.below hB2 (Nat.le_refl _)) (HE.out.below hA2) dirN_size dir_wf).mono ?_
  rw [ex_partV]
  rintro e w3 ⟨rfl, hB3⟩
  have hA3 : Below w.heap.size w w3 := hA2.trans (hB3.mono hA2.size)
  clear hB1 hB2 hB3 hj1 hA2
  have hs3 := Below.size hA3
  have b1 := Blk.new w3 37 #[.int .i64 0, .int .i64 1, .int .i64 1, .int .i64 2]
  have hA4 := hA3.alloc hs3 (.cells #[.int .i64 0, .int .i64 1, .int .i64 1, .int .i64 2] 37 (0, 0))
  go_wp2_with fail
  have bn := Blk.new' (w3.alloc (.cells #[.int .i64 0, .int .i64 1, .int .i64 1, .int .i64 2] 37)) 3 #[.int .i64 38, .int .i64 20] (g := w3.heap.size + 1) (by simp)
  have b1 := b1.alloc (.cells #[.int .i64 38, .int .i64 20] 3 (0, 0))
  have hA5 := hA4.alloc (Below.size hA4) (.cells #[.int .i64 38, .int .i64 20] 3 (0, 0))
  have hin : InOk [38, 20] (some ⟨w3.heap.size + 1, 0, none⟩) 2 (w3.heap.size + 2) ((w3.alloc (.cells #[.int .i64 0, .int .i64 1, .int .i64 1, .int .i64 2] 37)).alloc (.cells #[.int .i64 38, .int .i64 20] 3)) := by
    refine ⟨by simp, ?_, ⟨rfl, fun _ => ⟨w3.heap.size + 1, 0, rfl, by omega, fun j u hu => ?_⟩⟩, by simp⟩
    · intro p hp; simp at hp; rcases hp with rfl | rfl <;> simp [I64]
    · rw [Nat.zero_add, bn.cell j, List.getElem?_toArray]
      exact hu
  refine (anew_any exT [38, 20] (some ⟨w3.heap.size + 1, 0, none⟩) 2 (w3.heap.size + 2) _ hin).mono ?_
  rw [ex_open, ex_anew]
  rintro e w10 ⟨v7, rfl, own7, hB10⟩
  have b1 := b1.below hB10 b1.lt
  have hA15 := hA5.trans (hB10.mono (Below.size hA5))
  have own7 := own7.mono (base' := w.heap.size) (Below.size hA5)
  clear hA3 hA4 hA5 hin bn hB10 hs3
  generalize w3.heap.size = g1 at *
  obtain ⟨A7, c7, hv7, hR7⟩ := Row.own own7
  subst hv7
  clear own7
  have l1 := b1.lt
  obtain ⟨d0, d1, d2, d3, _⟩ := blk4 b1
  simp only [List.length_cons, List.length_nil, Nat.zero_add, Nat.reduceAdd] at hR7
  go_wp2_with fail
  have bA := Blk.new w10 68 #[.int .i64 0, .int .i64 11, .int .i64 29, .int .i64 29, .int .i64 47, .int .i64 100]
  have hA16 := hA15.alloc (Below.size hA15) (.cells #[.int .i64 0, .int .i64 11, .int .i64 29, .int .i64 29, .int .i64 47, .int .i64 100] 68 (0, 0))
  have hRA : Row (w10.alloc (.cells #[.int .i64 0, .int .i64 11, .int .i64 29, .int .i64 29, .int .i64 47, .int .i64 100] 68)) (w10.heap.size + 1) 2 (some ⟨w10.heap.size, 0, none⟩) 3 (rngsC [(0, 11), (29, 29), (47, 100)]) := ⟨rfl, fun _ => ⟨w10.heap.size, 0, rfl, by omega, fun j u hu => by rw [Nat.zero_add, bA.cell j, List.getElem?_toArray]; exact hu⟩⟩
  have hR7B := (hR7.alloc (Nat.le_refl _) (.cells #[.int .i64 0, .int .i64 11, .int .i64 29, .int .i64 29, .int .i64 47, .int .i64 100] 68 (0, 0))).more (B' := w10.heap.size + 1) (by omega)
  have hd : decide ([((0 : Int), (11 : Int)), (29, 29), (47, 100)] = [(0, 11), (29, 29), (47, 100)]) = true := by decide
  refine (ranges_any [(0, 11), (29, 29), (47, 100)] [(0, 11), (29, 29), (47, 100)] A7 (some ⟨w10.heap.size, 0, none⟩) c7 3 (w10.heap.size + 1) _ (by simp) (by simp) hR7B hRA (by simp)).mono ?_
  rw [hd]
  rintro e w12 ⟨rfl, hB12⟩
  go_wp2
  go_ret
  exact ⟨rfl, hA16.trans (hB12.mono (Below.size hA16))⟩

/-! ### set-ups -/
theorem setupsC_cells {w : World} {l : List (ByteArray × Su)} {a : Addr} {B : Nat} (h : Row w B 10 (some a) l.length (sucsC l)) : ∀ j u, (sucsC l)[j]? = some u → w.cell? (a.add j) = some u := by
  intro j u hu
  have hj : 0 < l.length := by
    have h1 := (List.getElem?_eq_some_iff.1 hu).1
    have h2 := h.1
    omega
  obtain ⟨g, o, e, _, hc⟩ := h.2 hj
  cases e
  rw [Addr.add_lit]
  exact hc j u hu
theorem sucsC_one (l : List (ByteArray × Su)) : ∀ u ∈ sucsC l, u.oneCell' = true := by
  intro u hu
  simp only [sucsC, List.mem_flatMap] at hu
  obtain ⟨p, _, hp⟩ := hu
  simp at hp
  rcases hp with rfl | rfl | rfl | rfl | rfl | rfl | rfl | rfl | rfl | rfl <;> rfl
theorem infoSetup : (Tryz.prog.info? 34).map (fun i => (i.zero, i.size, i.bytes)) = some (some (.agg #[.string ⟨#[]⟩, .int .i64 0, .int .i64 0, .int .i64 0, .int .i64 0, .int .i64 0, .int .i64 0, .int .i64 0, .int .i64 0, .int .i64 0]), 10, 88) := by kernel_rfl

set_option maxRecDepth 100000 in
set_option maxHeartbeats 1000000 in
theorem copySetups_any (l : List (ByteArray × Su)) (A : Option Addr) (c B : Nat) (w : World) (hs : SuOk l A c B w) (hA : A = none → c = 0) (hl : l.length ≤ 1000000000) :
    Calls Tryz.prog 9 #[.slice A l.length c] w fun e w' => ∃ v, e = .returned v ∧ w'.ownsRow w.heap.size 34 10 v l.length (sucsC l) ∧ Below w.heap.size w w' := by
  obtain ⟨k1, k2, k3, k4, hR, hB⟩ := hs
  obtain ⟨i0, hi, hz0, hz1, hz2⟩ := info_parts infoSetup
  have own : (w.alloc (.cells #[] 34)).ownsRow w.heap.size 34 10 (.slice (some ⟨w.heap.size, 0, none⟩) 0 0) 0 [] := by
    have h := World.ownsRow_made (base := w.heap.size) (e := 34) (size := 10) w #[] 0 (Nat.le_refl _) (by simp [maxLen]) (by simp)
    simpa using h
  have hB3 : Below w.heap.size w (w.alloc (.cells #[] 34)) := (Below.refl _ _).alloc (Nat.le_refl _) _
  cases A with
  | none =>
    have h0 : l.length = 0 := by
      rcases Nat.eq_zero_or_pos l.length with h | h
      · exact h
      · obtain ⟨_, _, h, _⟩ := hR.2 h; cases h
    have hn : l = [] := List.eq_nil_of_length_eq_zero h0
    have hc0 := hA rfl
    subst hc0 hn
    go_enter Tryz.func9, Tryz.ntmps9
    go_wp2_with (at_builtin; refine wpList_append_own_none rfl _ _ 25 rfl w.heap.size 34 i0 10 Tryz.underlying25 hi _ _ _ rfl own rfl ?_)
    go_ret
    exact ⟨_, rfl, own, hB3⟩
  | some a =>
    go_enter Tryz.func9, Tryz.ntmps9
    go_wp2_with (at_builtin; refine wpList_append_own _ rfl _ _ 25 rfl w.heap.size 34 i0 (.agg #[.string ⟨#[]⟩, .int .i64 0, .int .i64 0, .int .i64 0, .int .i64 0, .int .i64 0, .int .i64 0, .int .i64 0, .int .i64 0, .int .i64 0]) 10 88 Tryz.underlying25 hi hz0 hz1 hz2 rfl (by decide) _ _ _ rfl own a l.length c (sucsC l) rfl (sucsC_length _) ?c1 ?c2 ?c3 ?c4 ?c5 ?_)
    try
      case c1 => exact setupsC_cells (hR.alloc hB _)
    try
      case c2 => exact sucsC_one l
    try
      case c3 => unfold maxLen; omega
    try
      case c4 => omega
    try
      case c5 => simp
    intro v3 w3 own3 hgrow _
    have hB4 : Below w.heap.size w w3 := below_own hB3 (by omega) own hgrow
    try simp only [Nat.zero_add, List.nil_append] at own3
    go_wp2
    go_ret
    exact ⟨_, rfl, own3, hB4⟩

set_option maxHeartbeats 400000 in
theorem bIsName_long (s : ByteArray) (w : World) (hs : s.size ≤ 9223372036854775807) (hb : 12 < s.size) :
    Calls Tryz.prog 41 #[.string s] w fun e w' => e = .returned (.bool false) ∧ w = w' := by
  have hb' : (12 : Int) < (s.size : Int) := by omega
  have hb2 : ¬ ((s.size : Int) < 1) := by omega
  go_enter Tryz.func41, Tryz.ntmps41
  go_wp2
  all_goals
    go_ret
    exact ⟨rfl, rfl⟩
theorem nameB_long {s : ByteArray} (h : nameB s = true) : s.size ≤ 12 := by
  unfold nameB at h
  simp only [Bool.and_eq_true, decide_eq_true_eq] at h
  exact h.2
set_option maxRecDepth 100000 in
set_option maxHeartbeats 1000000 in
theorem rCheckSetup_big (nm : ByteArray) (s : Su) (w : World) (hs : nm.size ≤ 9223372036854775807) (hw : s.wf) :
    Calls Tryz.prog 44 #[.agg (suC nm s)] w fun e w' => e = .returned (.int .i64 (setupE nm s)) ∧ Below w.heap.size w w' := by
  by_cases h : nm.size ≤ 1000000000000
  · exact rCheckSetup_any nm s w h hw
  · have hB0 : Below w.heap.size w (w.alloc (.cells (suC nm s) 34)) := (Below.refl _ _).alloc (Nat.le_refl _) _
    have h1 : nameB nm = false := by
      cases hn : nameB nm
      · rfl
      · have := nameB_long hn; omega
    have HE : Hid (setupE nm s = 4) := by unfold setupE; rw [h1]; rfl
    clear h1
    unfold suC at *
    go_enter Tryz.func44, Tryz.ntmps44
    go_wp2_with (go_at_call 41; refine (bIsName_long _ _ hs (by omega)).mono ?_; rintro e w1 ⟨rfl, rfl⟩)
    go_ret
    exact ⟨by rw [HE.out]; rfl, hB0⟩

set_option maxRecDepth 100000 in
set_option maxHeartbeats 4000000 in
theorem rSetupsErr_any (l : List (ByteArray × Su)) (A : Option Addr) (c B : Nat) (w : World) (h1 : ∀ p ∈ l, p.1.size ≤ 9223372036854775807) (h2 : ∀ p ∈ l, p.2.wf) (h3 : l.length ≤ c) (h4 : c ≤ 9223372036854775807) (hR : Row w B 10 A l.length (sucsC l)) (hB : B ≤ w.heap.size) :
    Calls Tryz.prog 21 #[.slice A l.length c] w fun e w' => e = .returned (.int .i64 (setupsE l)) ∧ Below w.heap.size w w' := by
  have hl : l.length ≤ 9223372036854775807 := by omega
  by_cases t3 : 12 < l.length
  · have HE : Hid (setupsE l = 8) := by unfold setupsE; rw [if_pos t3]; rfl
    have t3' : (12 : Int) < (l.length : Int) := by omega
    go_enter Tryz.func21, Tryz.ntmps21
    go_wp2
    go_ret
    exact ⟨by rw [HE.out]; rfl, Below.refl _ _⟩
  · have HE : Hid (setupsE l = sesE (l.take 0) (l.drop 0)) := by unfold setupsE; rw [if_neg t3]; rfl
    have t3' : (l.length : Int) ≤ 12 := by omega
    clear t3
    go_enter Tryz.func21, Tryz.ntmps21
    go_wp2
    go_loopw [3] (fun i wr => ∃ k : Nat, k ≤ l.length ∧ i = .int .i64 k ∧ Hid (setupsE l = sesE (l.take k) (l.drop k)) ∧ Below w.heap.size w wr) (fun i _ => l.length - (intOf i).toNat)
    case atStart => exact ⟨0, Nat.zero_le _, rfl, HE, Below.refl _ _⟩
    case round =>
      clear HE
      obtain ⟨k, hk, rfl, HI, hBB⟩ := hrel
      have hsr := Below.size hBB
      by_cases hlt : k < l.length
      · obtain ⟨g, o, hA, hg, c0, c1, c2, c3, c4, c5, c6, c7, c8, c9⟩ := suCells (hR.below hBB hB) hlt
        subst hA
        have lg : g < wr.heap.size := by omega
        have HS := Lib.hid (HI.out.trans (sesE_step hlt))
        have HAN : Hid (∀ m (h : m < k), sameB (l[m]'(by omega)).1 l[k].1 = true → (l.take k).any (fun p => sameB p.1 l[k].1) = true) := Lib.hid fun m h hh => by
          rw [List.any_eq_true]
          exact ⟨l[m]'(by omega), by rw [List.mem_take_iff_getElem]; exact ⟨m, by omega, rfl⟩, hh⟩
        by_cases hz : setupE l[k].1 l[k].2 = 0
        case neg =>
          have HJ : Hid (setupsE l = setupE l[k].1 l[k].2) := Lib.hid (by rw [HS.out, if_neg hz])
          have hz' : (setupE l[k].1 l[k].2 != 0) = true := by simpa using hz
          go_wp2_with fail
          refine (rCheckSetup_big l[k].1 l[k].2 _ (h1 _ (List.getElem_mem hlt)) (h2 _ (List.getElem_mem hlt))).mono ?_
          rintro e w1 ⟨rfl, hB1⟩
          go_wp2
          go_ret
          exact ⟨by rw [HJ.out]; rfl, hBB.trans (hB1.mono hsr)⟩
        case pos =>
          have HZ := Lib.hid hz
          have hz' : (setupE l[k].1 l[k].2 != 0) = false := by simpa using hz
          go_wp2_with fail
          refine (rCheckSetup_big l[k].1 l[k].2 _ (h1 _ (List.getElem_mem hlt)) (h2 _ (List.getElem_mem hlt))).mono ?_
          rintro e w1 ⟨rfl, hB1⟩
          have hB2 := hBB.trans (hB1.mono hsr)
          have hs2 := Below.size hB2
          clear c0 c1 c2 c3 c4 c5 c6 c7 c8 c9 hB1 hz
          go_wp2
          go_loopw [5] (fun n wx => ∃ m : Nat, m ≤ k ∧ n = .int .i64 m ∧ Hid ((l.take m).any (fun p => sameB p.1 l[k].1) = false) ∧ Below w1.heap.size w1 wx) (fun n _ => k - (intOf n).toNat)
          case atStart => exact ⟨0, Nat.zero_le _, rfl, rfl, Below.refl _ _⟩
          case round =>
            obtain ⟨m, hm, rfl, HM, hBx⟩ := hrel
            have hB3 := hB2.trans (hBx.mono hs2)
            have hs3 := Below.size hB3
            by_cases hlm : m < k
            · have hmf : m < l.length := by omega
              obtain ⟨g', o', hA', hg', e0, _⟩ := suCells (hR.below hB3 hB) hmf
              obtain ⟨g2, o2, hA2, hg2, d0, _⟩ := suCells (hR.below hB3 hB) hlt
              cases hA'
              cases hA2
              have lgx : g < wr.heap.size := by omega
              have k0 : (0 : Int) ≤ (m : Int) := by omega
              have k1 : (m : Int) < (l.length : Int) := by omega
              have k2 : (m : Int) < (k : Int) := by omega
              have k3 : (0 : Int) ≤ (k : Int) := by omega
              have k4 : (k : Int) < (l.length : Int) := by omega
              have HT := Lib.hid (any_take_snoc l m hmf (fun p => sameB p.1 l[k].1))
              have HAM := Lib.hid (HAN.out m hlm)
              cases hq : sameB l[m].1 l[k].1
              · have HQ := Lib.hid hq
                unfold sameB at hq
                go_wp2_with fail
                go_quiet (fail)
                go_wp2
                go_roundw
                case rel => exact ⟨m + 1, by omega, by go_num, Lib.hid (by rw [HT.out, HM.out, HQ.out]; rfl), below_drewN' hBx _⟩
                case measure => simp [intOf]; omega
              · have HQ := Lib.hid hq
                have HJ : Hid (setupsE l = 5) := Lib.hid (by rw [HS.out, if_pos HZ.out, if_pos (HAM.out HQ.out)])
                unfold sameB at hq
                go_wp2_with fail
                go_quiet (fail)
                go_wp2
                go_ret
                exact ⟨by rw [HJ.out]; rfl, below_drewN' hB3 _⟩
            · obtain rfl : m = k := by omega
              have HF : Hid (setupsE l = sesE (l.take (m + 1)) (l.drop (m + 1))) := Lib.hid (by rw [HS.out, if_pos HZ.out, if_neg (by rw [HM.out]; simp)])
              go_wp2
              refine ⟨⟨m + 1, by omega, by go_num, HF, hB3⟩, by simp [intOf]; omega⟩
      · obtain rfl : k = l.length := by omega
        have HV : Hid (setupsE l = 0) := Lib.hid (by rw [HI.out]; simp [sesE])
        go_wp2
        go_ret
        exact ⟨by rw [HV.out]; rfl, hBB⟩

/-! ### a joint and a plan -/
def plC (j : Jo) (A : Option Addr) (c : Nat) (A' : Option Addr) (c' n : Nat) : Array Value := #[.string j.nm, .int .i64 j.thick, .int .i64 j.zone, .slice A j.fs.length c, .slice A' n c']
theorem pl_cells {w : World} {g : Nat} {j : Jo} {A : Option Addr} {c : Nat} {A' : Option Addr} {c' n : Nat} (h : Blk w g 27 (plC j A c A' c' n)) :
    w.cell? ⟨g, 0, none⟩ = some (.string j.nm) ∧ w.cell? ⟨g, 1, none⟩ = some (.int .i64 j.thick) ∧ w.cell? ⟨g, 2, none⟩ = some (.int .i64 j.zone) ∧ w.cell? ⟨g, 3, none⟩ = some (.slice A j.fs.length c) ∧ w.cell? ⟨g, 4, none⟩ = some (.slice A' n c') :=
  ⟨h.cell 0, h.cell 1, h.cell 2, h.cell 3, h.cell 4⟩
/-- Whether a joint and a plan are right, and few. -/
def coveredB (j : Jo) (l : List (ByteArray × Su)) : Bool := fewB j && decide (l.length ≤ 5) && decide ((jointE j).2 = 0) && decide (setupsE l = 0)

set_option maxRecDepth 100000 in
set_option maxHeartbeats 1000000 in
theorem covered_any (j : Jo) (l : List (ByteArray × Su)) (A : Option Addr) (c B : Nat) (A' : Option Addr) (c' : Nat) (w : World) (hn : j.fs.length ≤ c) (hc : c ≤ 9223372036854775807) (hR : Row w B 5 A j.fs.length (fcsC j.fs)) (hB : B ≤ w.heap.size)
    (hn' : l.length ≤ c') (hc' : c' ≤ 9223372036854775807) (hR' : Row w B 10 A' l.length (sucsC l)) (hw : ∀ p ∈ l, p.2.wf) (hsz : ∀ p ∈ l, p.1.size ≤ 9223372036854775807) :
    Calls Tryz.prog 5 #[.agg (plC j A c A' c' l.length)] w fun e w' => e = .returned (.bool (coveredB j l)) ∧ Below w.heap.size w w' := by
  have hBB : Below w.heap.size w (w.alloc (.cells (plC j A c A' c' l.length) 27)) := (Below.refl _ _).alloc (Nat.le_refl _) _
  have b := Blk.new w 27 (plC j A c A' c' l.length)
  have HR := Lib.hid (fun W (h : Below w.heap.size w W) => hR.below h hB)
  have HR' := Lib.hid (fun W (h : Below w.heap.size w W) => hR'.below h hB)
  clear hR hR'
  unfold plC at *
  cases hf : fewB j
  case false =>
    have HV : Hid (coveredB j l = false) := Lib.hid (by unfold coveredB; rw [hf]; rfl)
    go_enter Tryz.func5, Tryz.ntmps5
    have l_b := b.lt
    obtain ⟨t0, t1, t2, t3, t4⟩ := pl_cells b
    go_wp2_with fail
    refine (few_any j A c B _ (HR.out _ hBB) (Nat.le_trans hB (Below.size hBB))).mono ?_
    rw [hf]
    rintro e wc1 ⟨rfl, hBc1⟩
    replace b := b.gr hBc1
    replace hBB := hBB.trans (Below.mono hBc1 (Below.size hBB))
    clear hBc1
    clear l_b t0 t1 t2 t3 t4
    have l_b := b.lt
    obtain ⟨t0, t1, t2, t3, t4⟩ := pl_cells b
    go_wp2
    go_ret
    exact ⟨by rw [HV.out]; rfl, hBB⟩
  obtain ⟨f1, f2, f3⟩ := fewB_all hf
  have HJ : Hid (∀ W, Below w.heap.size w W → JoOk j A c B W) := Lib.hid fun W h => JoOk.mk_ f3 f2 hn hc (HR.out W h) (Nat.le_trans hB (Below.size h))
  clear f2 f3
  by_cases q : 5 < l.length
  · have HV : Hid (coveredB j l = false) := Lib.hid (by unfold coveredB; rw [decide_eq_false (by omega : ¬ l.length ≤ 5)]; simp)
    have q1 : (5 : Int) < (l.length : Int) := by omega
    go_enter Tryz.func5, Tryz.ntmps5
    have l_b := b.lt
    obtain ⟨t0, t1, t2, t3, t4⟩ := pl_cells b
    go_wp2_with fail
    refine (few_any j A c B _ (HR.out _ hBB) (Nat.le_trans hB (Below.size hBB))).mono ?_
    rw [hf]
    rintro e wc2 ⟨rfl, hBc2⟩
    replace b := b.gr hBc2
    replace hBB := hBB.trans (Below.mono hBc2 (Below.size hBB))
    clear hBc2
    clear l_b t0 t1 t2 t3 t4
    have l_b := b.lt
    obtain ⟨t0, t1, t2, t3, t4⟩ := pl_cells b
    go_wp2
    go_ret
    exact ⟨by rw [HV.out]; rfl, hBB⟩
  have q1 : (l.length : Int) ≤ 5 := by omega
  by_cases h0 : (jointE j).2 = 0
  case neg =>
    have HV : Hid (coveredB j l = false) := Lib.hid (by unfold coveredB; rw [decide_eq_false h0]; simp)
    have h1 : ((jointE j).2 == 0) = false := by simpa using h0
    go_enter Tryz.func5, Tryz.ntmps5
    have l_b := b.lt
    obtain ⟨t0, t1, t2, t3, t4⟩ := pl_cells b
    go_wp2_with fail
    refine (few_any j A c B _ (HR.out _ hBB) (Nat.le_trans hB (Below.size hBB))).mono ?_
    rw [hf]
    rintro e wc3 ⟨rfl, hBc3⟩
    replace b := b.gr hBc3
    replace hBB := hBB.trans (Below.mono hBc3 (Below.size hBB))
    clear hBc3
    clear l_b t0 t1 t2 t3 t4
    have l_b := b.lt
    obtain ⟨t0, t1, t2, t3, t4⟩ := pl_cells b
    go_wp2_with fail
    refine (rCheckJoint_any j A c B _ (HJ.out _ hBB)).mono ?_
    rintro e wc4 ⟨rfl, hBc4⟩
    replace b := b.gr hBc4
    replace hBB := hBB.trans (Below.mono hBc4 (Below.size hBB))
    clear hBc4
    clear l_b t0 t1 t2 t3 t4
    have l_b := b.lt
    obtain ⟨t0, t1, t2, t3, t4⟩ := pl_cells b
    go_wp2
    go_ret
    exact ⟨by rw [HV.out]; rfl, hBB⟩
  have h1 : ((jointE j).2 == 0) = true := by simpa using h0
  have HV : Hid (coveredB j l = decide (setupsE l = 0)) := Lib.hid (by unfold coveredB; rw [hf, decide_eq_true h0, decide_eq_true (by omega : l.length ≤ 5)]; rfl)
  go_enter Tryz.func5, Tryz.ntmps5
  have l_b := b.lt
  obtain ⟨t0, t1, t2, t3, t4⟩ := pl_cells b
  go_wp2_with fail
  refine (few_any j A c B _ (HR.out _ hBB) (Nat.le_trans hB (Below.size hBB))).mono ?_
  rw [hf]
  rintro e wc5 ⟨rfl, hBc5⟩
  replace b := b.gr hBc5
  replace hBB := hBB.trans (Below.mono hBc5 (Below.size hBB))
  clear hBc5
  clear l_b t0 t1 t2 t3 t4
  have l_b := b.lt
  obtain ⟨t0, t1, t2, t3, t4⟩ := pl_cells b
  go_wp2_with fail
  refine (rCheckJoint_any j A c B _ (HJ.out _ hBB)).mono ?_
  rintro e wc6 ⟨rfl, hBc6⟩
  replace b := b.gr hBc6
  replace hBB := hBB.trans (Below.mono hBc6 (Below.size hBB))
  clear hBc6
  clear l_b t0 t1 t2 t3 t4
  have l_b := b.lt
  obtain ⟨t0, t1, t2, t3, t4⟩ := pl_cells b
  go_wp2_with fail
  refine (rSetupsErr_any l A' c' B _ hsz hw hn' hc' (HR'.out _ hBB) (Nat.le_trans hB (Below.size hBB))).mono ?_
  rintro e wc7 ⟨rfl, hBc7⟩
  replace b := b.gr hBc7
  replace hBB := hBB.trans (Below.mono hBc7 (Below.size hBB))
  clear hBc7
  clear l_b t0 t1 t2 t3 t4
  have l_b := b.lt
  obtain ⟨t0, t1, t2, t3, t4⟩ := pl_cells b
  go_wp2
  go_ret
  exact ⟨by rw [HV.out]; rfl, hBB⟩
end Go.Proofs.YtlnkgjkjdllckaaGreatDoor

namespace Go.Proofs.YtlnkgjkjdllckaaGreatDoor
open Go.RowKit

theorem infoFaceS : (Tryz.prog.info? 77).map (fun i => (i.zero, i.size, i.bytes)) = some (some (.slice none 0 0), 1, 24) := by kernel_rfl
theorem only_set' {a w : World} {g : Nat} {row : Option Nat} (hr : row = some g) (h : a.grownBy w row) (i : Nat) (u : Value) : a.grownBy (w.setCell ⟨g, i, none⟩ u) row := by subst hr; exact only_setCell (p := ⟨g, i, none⟩) h (.inl rfl) u
theorem own_two {w : World} {b1 b2 e1 e2 s1 s2 n1 n2 : Nat} {v1 v2 : Value} {xs1 xs2 : List Value} (h1 : w.ownsRow b1 e1 s1 v1 n1 xs1) (h2 : w.ownsRow b2 e2 s2 v2 n2 xs2) (hne : e1 ≠ e2) : v1.ownBlock = none ∨ v1.ownBlock ≠ v2.ownBlock := by
  rcases h1.2 with ⟨rfl, _⟩ | ⟨g, cap, cur, rfl, _, hh, _⟩
  · exact .inl rfl
  · right
    rcases h2.2 with ⟨rfl, _⟩ | ⟨g', cap', cur', rfl, _, hh', _⟩
    · simp [Value.ownBlock]
    · intro e
      simp [Value.ownBlock] at e
      subst e
      rw [hh] at hh'
      simp at hh'
      exact hne hh'.2

/-- What set-ups meet of each face, in memory: a row of rows. -/
structure Planes (w : World) (base : Nat) (v : Value) (k n : Nat) (P : Nat → List GP) : Prop where
  row : ∃ vs : List Value, w.ownsRow base 77 1 v k vs ∧ ∀ i, i < k → ∃ vi, vs[i]? = some vi ∧ w.ownsRow base 89 6 vi n ((P i).flatMap encP)
theorem Planes.zero {w : World} {base n : Nat} {P : Nat → List GP} : Planes w base (.slice none 0 0) 0 n P := ⟨[], ⟨rfl, .inl ⟨rfl, rfl⟩⟩, fun i h => absurd h (by omega)⟩
theorem Planes.gr {w w' : World} {base : Nat} {v : Value} {k n : Nat} {P : Nat → List GP} (h : Planes w base v k n P) (hg : Below w.heap.size w w') : Planes w' base v k n P := by
  obtain ⟨vs, h1, h2⟩ := h.row
  exact ⟨vs, own_below h1 hg, fun i hi => by obtain ⟨vi, h3, h4⟩ := h2 i hi; exact ⟨vi, h3, own_below h4 hg⟩⟩

/-- The parts of all faces, with what is known of them. -/
theorem planesG (j : Jo) (l : List (ByteArray × Su)) (h0 : (jointE j).2 = 0) (h1 : setupsE l = 0) : ∃ P : Nat → List GP, ∀ i, i < j.fs.length → (P i).map Subtype.val = partsV j i l ∧ (P i).length = l.length := by
  have : ∀ i : Nat, ∃ ps : List GP, i < j.fs.length → ps.map Subtype.val = partsV j i l ∧ ps.length = l.length := by
    intro i
    by_cases hi : i < j.fs.length
    · have ho : openFaceE j i = 0 := by
        unfold openFaceE
        rw [if_pos h0, if_pos (by simp [wi]; omega)]
      obtain ⟨ps, hps⟩ := partsG j i l ho h1
      exact ⟨ps, fun _ => ⟨hps, by have := congrArg List.length hps; simpa [partsV] using this⟩⟩
    · exact ⟨[], fun h => absurd h hi⟩
  exact ⟨fun i => Classical.choose (this i), fun i => Classical.choose_spec (this i)⟩
theorem openFace_in {j : Jo} (h0 : (jointE j).2 = 0) {i : Nat} (hi : i < j.fs.length) : openFaceE j i = 0 := by
  unfold openFaceE
  rw [if_pos h0, if_pos (by simp [wi]; omega)]

set_option maxRecDepth 100000 in
set_option maxHeartbeats 4000000 in
theorem openPlan_ok (j : Jo) (l : List (ByteArray × Su)) (P : Nat → List GP) (A : Option Addr) (c B : Nat) (A' : Option Addr) (c' : Nat) (w : World) (hj : JoOk j A c B w) (hl : SuOk l A' c' B w) (hE : Ends w) (h0 : (jointE j).2 = 0) (h1 : setupsE l = 0) (hP : ∀ i, i < j.fs.length → (P i).map Subtype.val = partsV j i l ∧ (P i).length = l.length) :
    Calls Tryz.prog 22 #[.agg (joC j A c), .slice A' l.length c'] w fun e w' => ∃ v, e = .returned (.tuple #[v, .int .i64 0]) ∧ Planes w' w.heap.size v j.fs.length l.length P ∧ Below w.heap.size w w' := by
  obtain ⟨i0, hi, hz0, hz1, hz2⟩ := info_parts infoFaceS
  have HJ := Lib.hid (fun W (h : Below w.heap.size w W) => JoOk.below hj h hj.base)
  have HL := Lib.hid (fun W (h : Below w.heap.size w W) => SuOk.below hl h hl.base)
  have HE : Hid (∀ W, Below w.heap.size w W → Ends W) := Lib.hid fun W h => hE.below h
  have hlen := (jointE_zero h0).2.2.2.2.1
  have HP := Lib.hid hP
  have H1 := Lib.hid h1
  have HO := Lib.hid (fun i (h : i < j.fs.length) => openFace_in h0 h)
  have hq : ((jointE j).2 != 0) = false := by simpa using h0
  have hq1 : (setupsE l != 0) = false := by simpa using h1
  clear hj hl hE hP h0 h1
  have b := Blk.new w 24 (joC j A c)
  have hBB : Below w.heap.size w (w.alloc (.cells (joC j A c) 24)) := (Below.refl _ _).alloc (Nat.le_refl _) _
  unfold joC at *
  go_enter Tryz.func22, Tryz.ntmps22
  have l_b := b.lt
  obtain ⟨t0, t1, t2, t3⟩ := jo_cells b
  go_wp2_with fail
  refine (jointErr_any j A c _ _ (HJ.out _ hBB).nm (HJ.out _ hBB).fs (HJ.out _ hBB).len (HJ.out _ hBB).cap (HJ.out _ hBB).row (HJ.out _ hBB).base).mono ?_
  rintro e wc8 ⟨rfl, hBc8⟩
  replace b := b.gr hBc8
  replace hBB := hBB.trans (Below.mono hBc8 (Below.size hBB))
  clear hBc8
  clear l_b t0 t1 t2 t3
  have l_b := b.lt
  obtain ⟨t0, t1, t2, t3⟩ := jo_cells b
  go_wp2_with fail
  refine (setupsErr_any l A' c' _ _ (HL.out _ hBB)).mono ?_
  rintro e wc9 ⟨rfl, hBc9⟩
  replace b := b.gr hBc9
  replace hBB := hBB.trans (Below.mono hBc9 (Below.size hBB))
  clear hBc9
  clear l_b t0 t1 t2 t3
  have l_b := b.lt
  obtain ⟨t0, t1, t2, t3⟩ := jo_cells b
  go_wp2
  go_loopw [8, 23] (fun v i wr => ∃ k : Nat, k ≤ j.fs.length ∧ i = .int .i64 k ∧ Planes wr w.heap.size v k l.length P ∧ Blk wr w.heap.size 24 #[.string j.nm, .int .i64 j.thick, .int .i64 j.zone, .slice A j.fs.length c] ∧ Below w.heap.size w wr) (fun _ i _ => j.fs.length - (intOf i).toNat)
  case atStart => exact ⟨0, Nat.zero_le _, rfl, Planes.zero, b, hBB⟩
  case round =>
    clear b hBB
    obtain ⟨k, hk, rfl, M, b, hBB⟩ := hrel
    have l_b := b.lt
    obtain ⟨t0, t1, t2, t3⟩ := jo_cells b
    by_cases hlt : k < j.fs.length
    · obtain ⟨hpk, hpl⟩ := HP.out k hlt
      go_wp2_with fail
      refine (faceOf_any j k l A c _ A' c' _ (HJ.out _ hBB) (HL.out _ hBB) (HE.out _ hBB) (HO.out k hlt) H1.out).mono ?_
      rintro e wc10 ⟨v, rfl, own, hBc10⟩
      replace b := b.gr hBc10
      rw [← hpk, ptsC_flat] at own
      replace own := own.mono (base' := w.heap.size) (Below.size hBB)
      replace M := M.gr hBc10
      obtain ⟨Av, cv, hv, _, _⟩ := own_shape own
      subst hv
      replace hBB := hBB.trans (Below.mono hBc10 (Below.size hBB))
      clear hBc10
      clear l_b t0 t1 t2 t3
      have l_b := b.lt
      obtain ⟨t0, t1, t2, t3⟩ := jo_cells b
      have hsz := Below.size hBB
      obtain ⟨vs, hown, hvs⟩ := M.row
      go_wp2_with (at_builtin; refine wpList_append_own _ rfl _ _ 73 rfl w.heap.size 77 i0 (.slice none 0 0) 1 24 Tryz.underlying73 hi hz0 hz1 hz2 rfl (by decide) _ _ _ rfl (hown.alloc _) ⟨wc10.heap.size, 0, none⟩ 1 1 [.slice Av l.length cv] rfl rfl ?c1 ?c2 ?c3 ?c4 ?c5 ?_)
      case c1 => exact cell_one_new _ _ _
      case c2 => simp [Value.oneCell']
      case c3 => unfold maxLen; omega
      case c4 => omega
      case c5 => simp; omega
      intro v' w3 own3 hgrow _
      have ha := hown.alloc (.cells #[.slice Av l.length cv] 77)
      have hB' : Below w.heap.size w w3 := below_own (hBB.alloc hsz _) (Nat.le_refl _) ha hgrow
      have b3 := (b.alloc (.cells #[.slice Av l.length cv] 77 (0, 0))).grown hgrow (own_blk_ne ha (b.alloc (.cells #[.slice Av l.length cv] 77 (0, 0))) (by decide)).symm
      have M3 : Planes w3 w.heap.size v' (k + 1) l.length P := by
        have hl1 := hown.1
        refine ⟨_, own3, fun i hi => ?_⟩
        by_cases hik : i < k
        · obtain ⟨vi, h3, h4⟩ := hvs i hik
          refine ⟨vi, by rw [List.getElem?_append_left (by omega)]; exact h3, ?_⟩
          have h5 := h4.alloc (.cells #[.slice Av l.length cv] 77)
          exact h5.kept hgrow (own_two h5 ha (by decide))
        · obtain rfl : i = k := by omega
          refine ⟨.slice Av l.length cv, by rw [List.getElem?_append_right (by omega)]; first | rfl | simp [hl1] | (simp; omega), ?_⟩
          have h5 := own.alloc (.cells #[.slice Av l.length cv] 77)
          exact h5.kept hgrow (own_two h5 ha (by decide))
      go_wp2
      refine ⟨⟨k + 1, by omega, by go_num, M3, b3, hB'⟩, by simp [intOf]; omega⟩
    · obtain rfl : k = j.fs.length := by omega
      go_wp2
      go_ret2
      exact ⟨_, rfl, M, hBB⟩

/-- A gap that the parts of a face may have. -/
def GapOf (ps : List GP) (n : Nat) (r : (Int × Int × Int × Int) × Bool) : Prop := ∃ l' : List GP, l'.Perm (selG ps (List.range n)) ∧ l'.Pairwise (fun x y => x.1.a * y.1.b ≤ y.1.a * x.1.b) ∧ r = gapL (0, 1) l'
/-- What CheckPlan answers of a right joint and plan. -/
def CPlan (nf n : Nat) (P : Nat → List GP) (e : Ending) : Prop :=
  (∃ (i : Nat) (a b c d : Int), i < nf ∧ GapOf (P i) n ((a, b, c, d), true) ∧ e = .returned (.tuple #[.int .i64 i, .agg #[.int .i64 a, .int .i64 b, .int .i64 c, .int .i64 d], .int .i64 14])) ∨
  ((∀ i, i < nf → ∃ r, GapOf (P i) n (r, false)) ∧ e = .returned (.tuple #[.int .i64 0, .agg #[.int .i64 0, .int .i64 0, .int .i64 0, .int .i64 0], .int .i64 0]))

set_option maxRecDepth 100000 in
set_option maxHeartbeats 4000000 in
theorem checkPlan_ok (j : Jo) (l : List (ByteArray × Su)) (P : Nat → List GP) (A : Option Addr) (c B : Nat) (A' : Option Addr) (c' : Nat) (w : World) (hj : JoOk j A c B w) (hl : SuOk l A' c' B w) (hE : Ends w) (h0 : (jointE j).2 = 0) (h1 : setupsE l = 0) (hP : ∀ i, i < j.fs.length → (P i).map Subtype.val = partsV j i l ∧ (P i).length = l.length) :
    Calls Tryz.prog 7 #[.agg (joC j A c), .slice A' l.length c'] w fun e w' => CPlan j.fs.length l.length P e ∧ Below w.heap.size w w' := by
  have HJ := Lib.hid (fun W (h : Below w.heap.size w W) => JoOk.below hj h hj.base)
  have HL := Lib.hid (fun W (h : Below w.heap.size w W) => SuOk.below hl h hl.base)
  have HE : Hid (∀ W, Below w.heap.size w W → Ends W) := Lib.hid fun W h => hE.below h
  have hlen := (jointE_zero h0).2.2.2.2.1
  have hll := (setupsE_zero h1).1
  have HP := Lib.hid hP
  have HO := Lib.hid (fun W (h : Below w.heap.size w W) => openPlan_ok j l P A c B A' c' W (JoOk.below hj h hj.base) (SuOk.below hl h hl.base) (hE.below h) h0 h1 hP)
  have hB0 := hj.base
  clear hj hl hE hP h0 h1
  have b := (Blk.new w 24 (joC j A c)).alloc (.cells #[.int .i64 0, .int .i64 0, .int .i64 0, .int .i64 0] 37 (0, 0))
  have o := Blk.new' (w.alloc (.cells (joC j A c) 24)) 37 #[.int .i64 0, .int .i64 0, .int .i64 0, .int .i64 0] (g := w.heap.size + 1) (by simp)
  have hBB : Below w.heap.size w ((w.alloc (.cells (joC j A c) 24)).alloc (.cells #[.int .i64 0, .int .i64 0, .int .i64 0, .int .i64 0] 37)) := ((Below.refl _ _).alloc (Nat.le_refl _) _).alloc (by simp) _
  unfold joC at *
  go_enter Tryz.func7, Tryz.ntmps7
  have l_b := b.lt
  obtain ⟨t0, t1, t2, t3⟩ := jo_cells b
  have l_o := o.lt
  obtain ⟨o0, o1, o2, o3, of⟩ := blk4 o
  go_wp2_with fail
  refine (HO.out _ hBB).mono ?_
  rintro e wc11 ⟨v, rfl, M, hBc11⟩
  replace b := b.gr hBc11
  replace o := o.gr hBc11
  replace M := M
  replace hBB := hBB.trans (Below.mono hBc11 (Below.size hBB))
  clear hBc11
  clear l_b t0 t1 t2 t3 l_o o0 o1 o2 o3 of
  have l_b := b.lt
  have l_o := o.lt
  obtain ⟨t0, t1, t2, t3⟩ := jo_cells b
  obtain ⟨o0, o1, o2, o3, of⟩ := blk4 o
  clear HO
  obtain ⟨Af, cf, hv, _, _⟩ : ∃ Af cf, v = .slice Af j.fs.length cf ∧ j.fs.length ≤ cf ∧ True := by obtain ⟨vs, hown, _⟩ := M.row; obtain ⟨A2, c2, h1, h2, _⟩ := own_shape hown; exact ⟨A2, c2, h1, h2, trivial⟩
  subst hv
  obtain ⟨base, hbase⟩ : ∃ n, n = ((w.alloc (.cells #[.string j.nm, .int .i64 j.thick, .int .i64 j.zone, .slice A j.fs.length c] 24)).alloc (.cells #[.int .i64 0, .int .i64 0, .int .i64 0, .int .i64 0] 37)).heap.size := ⟨_, rfl⟩
  rw [← hbase] at M
  have hb2 : w.heap.size + 2 = base := by rw [hbase]; simp
  clear hbase
  go_wp2
  go_loopw [25] (fun i wr => ∃ k : Nat, k ≤ j.fs.length ∧ i = .int .i64 k ∧ Hid (∀ i, i < k → ∃ r, GapOf (P i) l.length (r, false)) ∧ Planes wr base (.slice Af j.fs.length cf) j.fs.length l.length P ∧ Blk wr (w.heap.size + 1) 37 #[.int .i64 0, .int .i64 0, .int .i64 0, .int .i64 0] ∧ Below w.heap.size w wr) (fun i _ => j.fs.length - (intOf i).toNat)
  case atStart => exact ⟨0, Nat.zero_le _, rfl, Lib.hid fun i h => absurd h (by omega), M, o, hBB⟩
  case round =>
    clear b o hBB M
    obtain ⟨k, hk, rfl, HI, M, o, hBB⟩ := hrel
    have l_o := o.lt
    obtain ⟨o0, o1, o2, o3, of⟩ := blk4 o
    by_cases hlt : k < j.fs.length
    · obtain ⟨hpk, hpl⟩ := HP.out k hlt
      obtain ⟨vs, hown, hvs⟩ := M.row
      obtain ⟨vi, hvi, hoi⟩ := hvs k hlt
      obtain ⟨A2, c2, hv2, hle, hcells⟩ := own_shape hown
      simp only [Value.slice.injEq, true_and] at hv2
      obtain ⟨rfl, rfl⟩ := hv2
      obtain ⟨gf, rfl, hgf, lgf, hcf, _⟩ := hcells (by omega)
      obtain ⟨Ai, ci, rfl, hRi⟩ := Row.own hoi
      have hck := (hcf k (by omega)).trans hvi
      have hkc : (k : Int) < (j.fs.length : Int) := by omega
      have hk0 : (0 : Int) ≤ (k : Int) := by omega
      go_wp2_with fail
      refine (all_any l.length A' c' _ (by omega)).mono ?_
      rintro e wc12 ⟨v3, rfl, own3, hBc12⟩
      replace o := o.gr hBc12
      replace hRi := (hRi.below hBc12 (Nat.le_refl _)).more (Below.size hBc12)
      replace M := M.gr hBc12
      replace hBB := hBB.trans (Below.mono hBc12 (Below.size hBB))
      clear hBc12
      clear l_o o0 o1 o2 o3 of
      have l_o := o.lt
      obtain ⟨o0, o1, o2, o3, of⟩ := blk4 o
      rw [natsC_upTo] at own3
      obtain ⟨A3, cap3, rfl, hr3⟩ := Row.own own3
      have hg := Lib.hid (gap_any (P k) (List.range l.length) Ai ci A3 cap3 wc12 (by omega) (by simp; omega) (by intro n hn; rw [hpl]; exact List.mem_range.1 hn) (by rw [hpl]; exact hRi) (by simpa using hr3) (HE.out _ hBB))
      rw [List.length_range, hpl] at hg
      clear own3 hr3 hRi hown hvs hoi hcells hcf hck
      go_wp2_with fail
      refine (hg.out).mono ?_
      rintro e wc13 ⟨l', hp, hs, rfl, hBc13⟩
      replace o := o.gr hBc13
      replace M := M.gr hBc13
      replace hBB := hBB.trans (Below.mono hBc13 (Below.size hBB))
      clear hBc13
      clear l_o o0 o1 o2 o3 of
      have l_o := o.lt
      obtain ⟨o0, o1, o2, o3, of⟩ := blk4 o
      obtain ⟨⟨⟨ra, rb, rc, rd⟩, rz⟩, HR⟩ : ∃ r, Hid (r = gapL (0, 1) l') := ⟨_, Lib.hid rfl⟩
      rw [← HR.out]
      have HG : Hid (GapOf (P k) l.length ((ra, rb, rc, rd), rz)) := Lib.hid ⟨l', hp, hs, HR.out⟩
      unfold gapC
      clear hg hp hs HR
      have hsz := Below.size hBB
      have z := Blk.new wc13 37 #[.int .i64 ra, .int .i64 rb, .int .i64 rc, .int .i64 rd]
      have o4 := o.alloc (.cells #[.int .i64 ra, .int .i64 rb, .int .i64 rc, .int .i64 rd] 37 (0, 0))
      have M4 : Planes _ base _ j.fs.length l.length P := M.gr ((Below.refl wc13.heap.size wc13).alloc (Nat.le_refl _) (.cells #[.int .i64 ra, .int .i64 rb, .int .i64 rc, .int .i64 rd] 37 (0, 0)))
      have hB4 := hBB.alloc hsz (.cells #[.int .i64 ra, .int .i64 rb, .int .i64 rc, .int .i64 rd] 37 (0, 0))
      clear l_o o0 o1 o2 o3 of
      cases rz
      · go_wp2
        refine ⟨⟨k + 1, by omega, by go_num, Lib.hid fun i hi => ?_, M4, o4, hB4⟩, by simp [intOf]; omega⟩
        by_cases hik : i < k
        · exact HI.out i hik
        · obtain rfl : i = k := by omega
          exact ⟨_, HG.out⟩
      · have lo := o.lt
        have hpz : wc13.heap.size ≠ w.heap.size + 1 := by omega
        go_wp2_with fail
        generalize wc13.alloc (.cells #[.int .i64 ra, .int .i64 rb, .int .i64 rc, .int .i64 rd] 37) = wz at *
        generalize wc13.heap.size = pz at *
        have lz := z.lt
        have lo4 := o4.lt
        obtain ⟨s0, s1, s2, s3, _⟩ := blk4 z
        obtain ⟨row, hrow⟩ : ∃ r : Option Nat, r = some (w.heap.size + 1) := ⟨_, rfl⟩
        have m1 : some pz ≠ row := by rw [hrow]; simpa using hpz
        have HRW := Lib.hid hrow; clear hrow
        clear M4 M hsz
        refine wp_region_w (fun w' => World.grownBy _ w' row) (by kernel_rfl) (only_drew (World.grownBy.refl _ _)) ?_
        refine wpW_det (t' := ?ct0R72) 0 (by rfl) (by kernel_rfl) (NQ_free _) (by kernel_rfl) ?cw0R72 ?ch0R72 ?ca0R72 (Eq.refl _) ?cH0R72
        case cw0R72 => (go_simp; done)
        case ch0R72 =>
          intro ds w' hS K hK
          have hc := (ocell hS).1
          have hf := (ocell hS).2
          have hz := hS.size
          try simp at hz
          go_simp
          try go_bits
          first
            | exact hK _ hS (Gr.refl _)
            | fail
        case ca0R72 => (first | (simp [Act.put]; done) | (simp [Act.put, *]; done))
        try dsimp only
        refine wpW_det (t' := ?ct1R72) 1 (by rfl) (by kernel_rfl) (NQ_free _) (by kernel_rfl) ?cw1R72 ?ch1R72 ?ca1R72 (Eq.refl _) ?cH1R72
        case cw1R72 => (go_simp; done)
        case ch1R72 =>
          intro ds w' hS K hK
          have hc := (ocell hS).1
          have hf := (ocell hS).2
          have hz := hS.size
          try simp at hz
          go_simp
          try go_bits
          first
            | exact hK _ hS (Gr.refl _)
            | fail
        case ca1R72 => (first | (simp [Act.put]; done) | (simp [Act.put, *]; done))
        try dsimp only
        refine wpW_det (t' := ?ct2R72) 2 (by rfl) (by kernel_rfl) (NQ_free _) (by kernel_rfl) ?cw2R72 ?ch2R72 ?ca2R72 (Eq.refl _) ?cH2R72
        case cw2R72 => (go_simp; done)
        case ch2R72 =>
          intro ds w' hS K hK
          have hc := (ocell hS).1
          have hf := (ocell hS).2
          have hz := hS.size
          try simp at hz
          go_simp
          try go_bits
          first
            | exact hK _ hS (Gr.refl _)
            | fail
        case ca2R72 => (first | (simp [Act.put]; done) | (simp [Act.put, *]; done))
        try dsimp only
        refine wpW_branch [3] (by kernel_rfl) (by simp) ?_
        intro w1 hg_w1 hS_w1
        have o5 := Blk.gr o4.drew hg_w1
        obtain ⟨o0, o1, o2, o3, of⟩ := blk4 o5
        have lo5 := o5.lt
        refine each_cons ?_ each_nil
        refine wpOp_go (by rfl) (Eq.refl _) (by go_simp; done) ?_
        intro K hK
        go_simp
        try simp only [Act.put]
        refine hK _ _ (only_set' HRW.out (only_set' HRW.out (only_set' HRW.out (only_set' HRW.out hS_w1 _ _) _ _) _ _) _ _) ?_
        replace o5 := Blk.set4 o5 (.int .i64 ra) (.int .i64 rb) (.int .i64 rc) (.int .i64 rd)
        clear hK K o0 o1 o2 o3 of lo5
        refine wpW_det (t' := ?ct4R73) 4 (by rfl) (by kernel_rfl) (NQ_free _) (by kernel_rfl) ?cw4R73 ?ch4R73 ?ca4R73 (Eq.refl _) ?cH4R73
        case cw4R73 => (go_simp; done)
        case ch4R73 =>
          intro ds w' hS K hK
          have hc := (ocell hS).1
          have hf := (ocell hS).2
          have hz := hS.size
          try simp at hz
          go_simp
          try go_bits
          first
            | exact hK _ hS (Gr.refl _)
            | exact hK _ (by repeat (first | (with_reducible exact Below.refl _ _) | (with_reducible assumption) | ((with_reducible refine Below.setCell ?_ ?_ _); rotate_left; · (first | exact Nat.le_refl _ | (simp; done) | (simp; omega) | omega)) | ((with_reducible refine Below.alloc ?_ ?_ _); rotate_left; · (first | exact Nat.le_refl _ | (simp; done) | (simp; omega) | omega)) | (with_reducible apply Below.drew) | (with_reducible apply below_drewN') | (refine Below.trans ?_ (Below.mono (by assumption) (by first | exact Nat.le_refl _ | (simp; done) | (simp; omega) | omega))) | exact Below.refl _ _ | assumption)) (by repeat (first | (with_reducible exact Below.refl _ _) | (with_reducible assumption) | ((with_reducible refine Below.setCell ?_ ?_ _); rotate_left; · (first | exact Nat.le_refl _ | (simp; done) | (simp; omega) | omega)) | ((with_reducible refine Below.alloc ?_ ?_ _); rotate_left; · (first | exact Nat.le_refl _ | (simp; done) | (simp; omega) | omega)) | (with_reducible apply Below.drew) | (with_reducible apply below_drewN') | (refine Below.trans ?_ (Below.mono (by assumption) (by first | exact Nat.le_refl _ | (simp; done) | (simp; omega) | omega))) | exact Below.refl _ _ | assumption))
        case ca4R73 => (first | (simp [Act.put]; done) | (simp [Act.put, *]; done))
        try dsimp only
        refine wpW_end (by kernel_rfl) ?_
        intro we hg hS
        unfold NQ
        dsimp only
        rw [HRW.out] at hS
        replace o5 := o5.gr hg
        obtain ⟨z0, z1, z2, z3, _⟩ := blk4 o5
        have hB5 := below_only hB4 hS (Below.size hB4) (by omega)
        have lo5 := o5.lt
        go_wp2
        refine bodyPost_ret (v := .tuple #[.int .i64 k, .agg #[.int .i64 ra, .int .i64 rb, .int .i64 rc, .int .i64 rd], .int .i64 14]) ?_ rfl ⟨.inl ⟨k, ra, rb, rc, rd, hlt, HG.out, rfl⟩, hB5⟩
        simp [results, Tryz.results7, go_sem, z0, z1, z2, z3]
    · obtain rfl : k = j.fs.length := by omega
      have x2 := Blk.set4 o (.int .i64 0) (.int .i64 0) (.int .i64 0) (.int .i64 0)
      obtain ⟨z0, z1, z2, z3, _⟩ := blk4 x2
      go_wp2
      refine bodyPost_ret (v := .tuple #[.int .i64 0, .agg #[.int .i64 0, .int .i64 0, .int .i64 0, .int .i64 0], .int .i64 0]) ?_ rfl ⟨.inr ⟨HI.out, rfl⟩, Below.set4 hBB (by omega)⟩
      simp [results, Tryz.results7, go_sem, z0, z1, z2, z3]
end Go.Proofs.YtlnkgjkjdllckaaGreatDoor
