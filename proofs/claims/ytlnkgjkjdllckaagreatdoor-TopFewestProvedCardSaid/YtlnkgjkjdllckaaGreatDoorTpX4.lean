/- Plain law of TopFewestProved: the set-ups that are chosen. The law TopFewestProved. -/
import Derived.Test.YtlnkgjkjdllckaaGreatDoorTpX2
import Derived.Test.YtlnkgjkjdllckaaGreatDoorTpX1
import Derived.Test.YtlnkgjkjdllckaaGreatDoorTpO
namespace Go.Proofs.YtlnkgjkjdllckaaGreatDoor
open Go.RowKit

/-- The numbers that a number's bits choose. -/
def chF : Nat → Nat → Nat → List Nat
  | 0, _, _ => []
  | r + 1, b, i => (if b % 2 = 1 then [i] else []) ++ chF r (b / 2) (i + 1)
theorem chF_mem : ∀ (r b i : Nat), (∀ x ∈ chF r b i, i ≤ x ∧ x < i + r) ∧ (chF r b i).Pairwise (· < ·)
  | 0, _, _ => ⟨by simp [chF], List.Pairwise.nil⟩
  | r + 1, b, i => by
    obtain ⟨h1, h2⟩ := chF_mem r (b / 2) (i + 1)
    unfold chF
    refine ⟨fun x hx => ?_, ?_⟩
    · rcases List.mem_append.1 hx with hx | hx
      · split at hx
        · simp at hx; omega
        · simp at hx
      · have := h1 x hx; omega
    · split
      · rw [List.singleton_append, List.pairwise_cons]
        exact ⟨fun x hx => by have := h1 x hx; omega, h2⟩
      · simpa using h2
theorem chF_subs (n b : Nat) : chF n b 0 ∈ subs n 0 (chF n b 0).length := by
  obtain ⟨h1, h2⟩ := chF_mem n b 0
  exact (subs_mem n 0 _ _).2 ⟨rfl, h2, fun x hx => by have := h1 x hx; omega⟩
theorem chF_len (n b : Nat) : (chF n b 0).length ≤ n := by
  have : ∀ (r b i : Nat), (chF r b i).length ≤ r := by
    intro r
    induction r with
    | zero => intro b i; simp [chF]
    | succ r ih =>
      intro b i
      unfold chF
      have := ih (b / 2) (i + 1)
      split <;> simp <;> omega
  exact this n b 0

def suZ : ByteArray × Su := (⟨#[]⟩, ⟨0, 0, 0, 0, 0, 0, 0, 0, 0⟩)
/-- The set-ups of these numbers. -/
def pickS (l : List (ByteArray × Su)) (ns : List Nat) : List (ByteArray × Su) := ns.map fun k => l[k]?.getD suZ
theorem pickS_length (l : List (ByteArray × Su)) (ns : List Nat) : (pickS l ns).length = ns.length := by simp [pickS]
theorem pickS_mem {l : List (ByteArray × Su)} {ns : List Nat} (h : ∀ k ∈ ns, k < l.length) {p : ByteArray × Su} (hp : p ∈ pickS l ns) : p ∈ l := by
  obtain ⟨k, hk, rfl⟩ := List.mem_map.1 hp
  rw [List.getElem?_eq_getElem (h k hk)]
  exact List.getElem_mem _
theorem pickS_snoc (l : List (ByteArray × Su)) (ns : List Nat) (k : Nat) (hk : k < l.length) : pickS l (ns ++ [k]) = pickS l ns ++ [l[k]] := by
  simp [pickS, hk]

theorem sesE_iff : ∀ (l a : List (ByteArray × Su)), sesE a l = 0 ↔ (∀ p ∈ l, setupE p.1 p.2 = 0) ∧ (∀ p ∈ l, ∀ q ∈ a, sameB q.1 p.1 = false) ∧ l.Pairwise fun q p => sameB q.1 p.1 = false
  | [], a => by simp [sesE]
  | p :: l, a => by
    unfold sesE
    by_cases h0 : setupE p.1 p.2 = 0
    · rw [if_pos h0]
      by_cases h1 : (a.any fun q => sameB q.1 p.1) = true
      · rw [if_pos h1]
        simp only [show ((5 : Int) = 0) = False by simp, false_iff]
        rintro ⟨_, h3, _⟩
        obtain ⟨q, hq, hs⟩ := List.any_eq_true.1 h1
        rw [h3 p (by simp) q hq] at hs
        cases hs
      · rw [if_neg h1, sesE_iff l (a ++ [p])]
        have h1' : ∀ q ∈ a, sameB q.1 p.1 = false := fun q hq => by
          cases hs : sameB q.1 p.1
          · rfl
          · exact absurd (List.any_eq_true.2 ⟨q, hq, hs⟩) h1
        constructor
        · rintro ⟨e1, e2, e3⟩
          refine ⟨fun x hx => ?_, fun x hx q hq => ?_, List.pairwise_cons.2 ⟨fun x hx => e2 x hx p (by simp), e3⟩⟩
          · rcases List.mem_cons.1 hx with rfl | hx
            · exact h0
            · exact e1 x hx
          · rcases List.mem_cons.1 hx with rfl | hx
            · exact h1' q hq
            · exact e2 x hx q (by simp [hq])
        · rintro ⟨e1, e2, e3⟩
          rw [List.pairwise_cons] at e3
          refine ⟨fun x hx => e1 x (by simp [hx]), fun x hx q hq => ?_, e3.2⟩
          rcases List.mem_append.1 hq with hq | hq
          · exact e2 x (by simp [hx]) q hq
          · obtain rfl := List.mem_singleton.1 hq
            exact e3.1 x hx
    · rw [if_neg h0]
      simp only [h0, false_iff]
      rintro ⟨e1, _⟩
      exact h0 (e1 p (by simp))
theorem pickS_right {l : List (ByteArray × Su)} {ns : List Nat} (h : setupsE l = 0) (hlt : ∀ k ∈ ns, k < l.length) (hp : ns.Pairwise (· < ·)) (hn : ns.length ≤ 12) : setupsE (pickS l ns) = 0 := by
  unfold setupsE at h ⊢
  have h12 : ¬ 12 < l.length := fun e => by rw [if_pos e] at h; simp at h
  rw [if_neg h12] at h
  rw [if_neg (by rw [pickS_length]; omega)]
  obtain ⟨e1, _, e3⟩ := (sesE_iff l []).1 h
  refine (sesE_iff _ []).2 ⟨fun p hp => e1 p (pickS_mem hlt hp), (fun _ _ q hq => by cases hq), ?_⟩
  unfold pickS
  rw [List.pairwise_map]
  refine List.Pairwise.imp_of_mem (fun {a b} ha hb hab => ?_) hp
  rw [List.getElem?_eq_getElem (hlt a ha), List.getElem?_eq_getElem (hlt b hb)]
  exact (List.pairwise_iff_getElem.1 e3) a b (hlt a ha) (hlt b hb) hab

/-- The parts of the chosen set-ups. -/
def pickP (ps : List GP) (ns : List Nat) : List GP := ns.filterMap fun k => ps[k]?
theorem pickP_length {ps : List GP} {ns : List Nat} (h : ∀ k ∈ ns, k < ps.length) : (pickP ps ns).length = ns.length := by
  induction ns with
  | nil => rfl
  | cons k ns ih =>
    unfold pickP
    rw [List.filterMap_cons, List.getElem?_eq_getElem (h k (by simp))]
    simp only [List.length_cons]
    congr 1
    exact ih (fun x hx => h x (by simp [hx]))
theorem pickP_map {j : Jo} {k : Int} {l : List (ByteArray × Su)} {ps : List GP} {ns : List Nat} (h : ∀ k ∈ ns, k < l.length) (hps : ps.map Subtype.val = partsV j k l) : (pickP ps ns).map Subtype.val = partsV j k (pickS l ns) := by
  have hl : ps.length = l.length := by have := congrArg List.length hps; simpa [partsV] using this
  induction ns with
  | nil => rfl
  | cons i ns ih =>
    have hi := h i (by simp)
    have ih' := ih (fun x hx => h x (by simp [hx]))
    unfold pickP pickS partsV at ih' ⊢
    rw [List.filterMap_cons, List.getElem?_eq_getElem (show i < ps.length by omega), List.map_cons, List.map_cons, List.map_cons, List.getElem?_eq_getElem hi]
    simp only [Option.getD_some]
    rw [ih']
    congr 1
    have e := congrArg (fun x => x[i]?) hps
    simp only [List.getElem?_map, List.getElem?_eq_getElem (show i < ps.length by omega), Option.map_some, partsV, List.getElem?_eq_getElem hi, Option.some.injEq] at e
    exact e
theorem pick_cov {ps : List GP} {ns : List Nat} (h : ∀ n m : Int, Pt n m → metAny (pickP ps ns) n m = true) : Cov ps ns := by
  intro n m hp
  obtain ⟨p, hpp, hh⟩ := List.any_eq_true.1 (h n m hp)
  obtain ⟨k, hk, e⟩ := List.mem_filterMap.1 hpp
  exact ⟨k, hk, p, e, hh⟩
theorem cov_range {ps : List GP} {ns : List Nat} (h : Cov ps ns) : Cov ps (List.range ps.length) := by
  intro n m hp
  obtain ⟨k, _, p, e, hh⟩ := h n m hp
  exact ⟨k, List.mem_range.2 (List.getElem?_eq_some_iff.1 e).1, p, e, hh⟩
end Go.Proofs.YtlnkgjkjdllckaaGreatDoor

namespace Go.Proofs.YtlnkgjkjdllckaaGreatDoor
open Go.RowKit Go.Lib Go.Shelf

theorem tm_bd_ (n d : Int) (hd : 0 < d) : -d < n.tmod d ∧ n.tmod d < d := by
  have := Int.natAbs_tmod n d
  have h2 : n.natAbs % d.natAbs < d.natAbs := Nat.mod_lt _ (by omega)
  omega
theorem mod_neg_ (n d : Int) (hd : 0 < d) (h : n.tmod d < 0) : n % d = n.tmod d + d := by
  have hb := tm_bd_ n d hd
  have he := Int.mul_tdiv_add_tmod n d
  exact (Int.ediv_emod_unique (q := n.tdiv d - 1) hd |>.2 ⟨by rw [Int.mul_sub]; omega, by omega, by omega⟩).2
theorem mod_pos_ (n d : Int) (hd : 0 < d) (h : 0 ≤ n.tmod d) : n % d = n.tmod d := by
  have hb := tm_bd_ n d hd
  have he := Int.mul_tdiv_add_tmod n d
  exact (Int.ediv_emod_unique (q := n.tdiv d) hd |>.2 ⟨by omega, by omega, by omega⟩).2
set_option maxHeartbeats 400000 in
theorem mod_any_ (n d : Int) (hd : 1 ≤ d ∧ d ≤ 4000000000000000000) (w : World) :
    Calls Tryz.prog 6 #[.int .i64 n, .int .i64 d] w fun e w' => e = .returned (.int .i64 (n % d)) ∧ w = w' := by
  have h0 : (d == 0) = false := by simp; omega
  have hb := tm_bd_ n d (by omega)
  go_enter Tryz.func6, Tryz.ntmps6
  go_wp2
  · go_ret
    exact ⟨by rw [mod_neg_ n d (by omega) (by assumption)]; rfl, rfl⟩
  · go_ret
    exact ⟨by rw [mod_pos_ n d (by omega) (by assumption)]; rfl, rfl⟩
theorem suCellsA {l : List (ByteArray × Su)} {k : Nat} (hk : k < l.length) : sucsC [l[k]] = [.string l[k].1, .int .i64 l[k].2.at_, .int .i64 l[k].2.side, .int .i64 l[k].2.legs, .int .i64 l[k].2.ln, .int .i64 l[k].2.ld, .int .i64 l[k].2.mn, .int .i64 l[k].2.md, .int .i64 l[k].2.tn, .int .i64 l[k].2.td] := by simp [sucsC]
theorem sucsC_snoc (a : List (ByteArray × Su)) (p : ByteArray × Su) : sucsC (a ++ [p]) = sucsC a ++ sucsC [p] := by simp [sucsC, List.flatMap_append]

set_option maxRecDepth 100000 in
set_option maxHeartbeats 8000000 in
theorem topFewest_any (j : Jo) (l : List (ByteArray × Su)) (A : Option Addr) (c B : Nat) (A' : Option Addr) (c' : Nat) (ch : Int) (w : World) (hn : j.fs.length ≤ c) (hc : c ≤ 9223372036854775807) (hR : Row w B 5 A j.fs.length (fcsC j.fs)) (hB : B ≤ w.heap.size) (hA : A = none → c = 0)
    (hn' : l.length ≤ c') (hc' : c' ≤ 9223372036854775807) (hR' : Row w B 10 A' l.length (sucsC l)) (hA' : A' = none → c' = 0) (hw : ∀ p ∈ l, p.2.wf) (hsz : ∀ p ∈ l, p.1.size ≤ 9223372036854775807) (hE : Ends w) :
    Calls Tryz.prog 3 #[.agg (plC j A c A' c' l.length), .int .i64 ch] w fun e w' => e = .returned (.bool true) ∧ Below w.heap.size w w' := by
  have hBB : Below w.heap.size w (w.alloc (.cells (plC j A c A' c' l.length) 27)) := (Below.refl _ _).alloc (Nat.le_refl _) _
  have HE : Hid (∀ W, Below w.heap.size w W → Ends W) := Lib.hid fun W h => hE.below h
  have HR := Lib.hid (fun W (h : Below w.heap.size w W) => hR.below h hB)
  have HR' := Lib.hid (fun W (h : Below w.heap.size w W) => hR'.below h hB)
  have HA := Lib.hid hA
  have HA' := Lib.hid hA'
  clear hE hR hR' hA hA'
  have b := Blk.new w 27 (plC j A c A' c' l.length)
  unfold plC at *
  go_enter Tryz.func3, Tryz.ntmps3
  have l_b := b.lt
  obtain ⟨t0, t1, t2, t3, t4⟩ := pl_cells b
  go_wp2_with fail
  refine (covering_any _ (HE.out _ hBB)).mono ?_
  rintro e wc1 ⟨rfl, hBc1⟩
  replace b := b.gr hBc1
  replace hBB := hBB.trans (Below.mono hBc1 (Below.size hBB))
  clear hBc1
  clear l_b t0 t1 t2 t3 t4
  have l_b := b.lt
  obtain ⟨t0, t1, t2, t3, t4⟩ := pl_cells b
  cases hcv : coveredB j l
  case false =>
    go_wp2_with fail
    refine (covered_any j l A c B A' c' _ hn hc (HR.out _ hBB) (Nat.le_trans hB (Below.size hBB)) hn' hc' (HR'.out _ hBB) hw hsz).mono ?_
    rw [hcv]
    rintro e wc2 ⟨rfl, hBc2⟩
    replace b := b.gr hBc2
    replace hBB := hBB.trans (Below.mono hBc2 (Below.size hBB))
    clear hBc2
    clear l_b t0 t1 t2 t3 t4
    have l_b := b.lt
    obtain ⟨t0, t1, t2, t3, t4⟩ := pl_cells b
    go_wp2
    go_ret
    exact ⟨rfl, hBB⟩
  go_wp2_with fail
  refine (covered_any j l A c B A' c' _ hn hc (HR.out _ hBB) (Nat.le_trans hB (Below.size hBB)) hn' hc' (HR'.out _ hBB) hw hsz).mono ?_
  rw [hcv]
  rintro e wc3 ⟨rfl, hBc3⟩
  replace b := b.gr hBc3
  replace hBB := hBB.trans (Below.mono hBc3 (Below.size hBB))
  clear hBc3
  clear l_b t0 t1 t2 t3 t4
  have l_b := b.lt
  obtain ⟨t0, t1, t2, t3, t4⟩ := pl_cells b
  obtain ⟨hf, hl5, hj0, hs0⟩ := coveredB_all hcv
  obtain ⟨f1, f2, f3⟩ := fewB_all hf
  have HJ : Hid (∀ W, Below w.heap.size w W → JoOk j A c B W) := Lib.hid fun W h => JoOk.mk_ f3 f2 hn hc (HR.out W h) (Nat.le_trans hB (Below.size h))
  have hsz' : ∀ p ∈ l, p.1.size ≤ 1000000000000 := fun p hp => by have := setupE_name ((setupsE_zero hs0).2 p hp); omega
  have HS : Hid (∀ W, Below w.heap.size w W → SuOk l A' c' B W) := Lib.hid fun W h => ⟨hsz', hw, hn', hc', HR'.out W h, Nat.le_trans hB (Below.size h)⟩
  clear f2 f3 hf hcv HR HR'
  obtain ⟨P, hP⟩ := planesG j l hj0 hs0
  have HG : Hid (GoodP j.fs.length l.length P) := Lib.hid fun i hi => ⟨(hP i hi).2, good_all (openFace_in hj0 hi) hs0 (hP i hi).1, low_all (openFace_in hj0 hi) hs0 (hP i hi).1⟩
  obtain ⟨bt, hbt, hbt2⟩ : ∃ bt : Nat, ch % 32 = (bt : Int) ∧ bt < 32 := ⟨(ch % 32).toNat, by have := Int.emod_nonneg ch (show (32 : Int) ≠ 0 by omega); omega, by have := Int.emod_lt_of_pos ch (show (0 : Int) < 32 by omega); omega⟩
  have HBT := Lib.hid hbt
  clear hbt
  obtain ⟨idx, hidx⟩ : ∃ idx, chF l.length bt 0 = idx := ⟨_, rfl⟩
  have hsub : idx ∈ subs l.length 0 idx.length := by rw [← hidx]; exact chF_subs _ _
  have hil : idx.length ≤ l.length := by rw [← hidx]; exact chF_len _ _
  have hmem := (subs_mem _ _ _ _).1 hsub
  have hlt : ∀ k ∈ idx, k < l.length := fun k hk => by have := hmem.2.2 k hk; omega
  have hs1 := pickS_right hs0 hlt hmem.2.1 (by omega)
  have HSB := Lib.hid hsub
  have HLT := Lib.hid hlt
  have HID := Lib.hid hidx
  have HP := Lib.hid hP
  have H0 := Lib.hid hj0
  have H1 := Lib.hid hs0
  have HS1 := Lib.hid hs1
  have hfl := (jointE_zero hj0).2.2.2.2.1
  have HW := Lib.hid (And.intro hw hsz')
  clear hsub hmem hlt hidx hP hj0 hs0 hs1 hw hsz hsz'
  clear l_b t0 t1 t2 t3 t4
  go_wp2_with fail
  refine (mod_any_ ch 32 ⟨by omega, by omega⟩ _).mono ?_
  rintro e wq ⟨rfl, rfl⟩
  rw [HBT.out]
  go_wp2_with fail
  obtain ⟨i0, hi0, iz0, iz1, iz2⟩ := info_parts infoSetup
  have HBB := Lib.hid hBB
  clear hBB
  go_loopw [5, 6, 7] (fun s5 s6 s7 wr => ∃ (i bits : Nat) (D : List Nat), s7 = .int .i64 i ∧ i ≤ l.length ∧ s6 = .int .i64 bits ∧ bits ≤ 31 ∧ Hid (D ++ chF (l.length - i) bits i = idx ∧ D.length ≤ i) ∧ wr.ownsRow w.heap.size 34 10 s5 D.length (sucsC (pickS l D)) ∧ Blk wr w.heap.size 27 #[.string j.nm, .int .i64 j.thick, .int .i64 j.zone, .slice A j.fs.length c, .slice A' l.length c'] ∧ Below w.heap.size w wr) (fun _ _ s7 _ => l.length - (RowKit.intOf s7).toNat)
  case atStart => exact ⟨0, bt, [], rfl, Nat.zero_le _, rfl, by omega, Lib.hid ⟨by rw [List.nil_append, Nat.sub_zero]; exact HID.out, by simp⟩, World.ownsRow_nil _ _ _ _, b, HBB.out⟩
  case round =>
    clear b
    obtain ⟨i, bits, D, rfl, hil2, rfl, hb31, HD, own, b, hB⟩ := hrel
    have HB := Lib.hid hB
    obtain ⟨t0, t1, t2, t3, t4⟩ := pl_cells b
    have lb := b.lt
    have HX := Lib.hid (And.intro own b)
    clear own b hB HBB
    by_cases hlt : i < l.length
    · obtain ⟨g, og, hAA, hg, c0, c1, c2, c3, c4, c5, c6, c7, c8, c9⟩ := suCells (HS.out _ HB.out).row hlt
      have hgg := (HS.out _ HB.out).base
      have lg : g < wr.heap.size := by omega
      subst hAA
      have hic : (i : Int) < (l.length : Int) := by omega
      have hi00 : (0 : Int) ≤ (i : Int) := by omega
      have hstep : chF (l.length - i) bits i = (if bits % 2 = 1 then [i] else []) ++ chF (l.length - (i + 1)) (bits / 2) (i + 1) := by
        rw [show l.length - i = (l.length - (i + 1)) + 1 by omega]; rfl
      have hq1 : (bits : Int).tdiv 2 = ((bits / 2 : Nat) : Int) := by rw [Int.tdiv_eq_ediv_of_nonneg (by omega)]; omega
      have hr1 : (bits : Int).tmod 2 = ((bits % 2 : Nat) : Int) := by rw [Int.tmod_eq_emod_of_nonneg (by omega)]; omega
      by_cases hb1 : bits % 2 = 1
      · have hr2 : (bits : Int).tmod 2 = 1 := by rw [hr1, hb1]; rfl
        have HD2 : Hid ((D ++ [i]) ++ chF (l.length - (i + 1)) (bits / 2) (i + 1) = idx ∧ (D ++ [i]).length ≤ i + 1) := Lib.hid ⟨by have := HD.out.1; rw [hstep, if_pos hb1] at this; rw [← this]; simp, by have := HD.out.2; simp; omega⟩
        have HSC := Lib.hid (pickS_snoc l D i hlt)
        have HSL := Lib.hid (suCellsA hlt)
        have hDl := HD.out.2
        generalize hpq : l[i] = pq at *
        obtain ⟨sn, s⟩ := pq
        dsimp only at *
        have HO := Lib.hid HX.out.1
        go_wp2_with (at_builtin; refine wpList_append_own _ rfl _ _ 25 rfl w.heap.size 34 i0 (.agg #[.string ⟨#[]⟩, .int .i64 0, .int .i64 0, .int .i64 0, .int .i64 0, .int .i64 0, .int .i64 0, .int .i64 0, .int .i64 0, .int .i64 0]) 10 88 Tryz.underlying25 hi0 iz0 iz1 iz2 rfl (by decide) _ _ _ rfl (HO.out.alloc _) ⟨wr.heap.size, 0, none⟩ 1 1 (sucsC [(sn, s)]) rfl (sucsC_length _) ?c1 ?c2 ?c3 ?c4 ?c5 ?_)
        case c1 =>
          intro j' u hu
          rw [HSL.out] at hu
          have hb := Blk.new wr 34 #[.string sn, .int .i64 s.at_, .int .i64 s.side, .int .i64 s.legs, .int .i64 s.ln, .int .i64 s.ld, .int .i64 s.mn, .int .i64 s.md, .int .i64 s.tn, .int .i64 s.td]
          rw [Addr.add_lit, Nat.zero_add, hb.cell j', List.getElem?_toArray]
          exact hu
        case c2 => exact sucsC_one _
        case c3 => unfold maxLen; omega
        case c4 => omega
        case c5 => simp; have := Below.size HB.out; omega
        intro v' w5 own5 hgrow _
        have hownA := HO.out.alloc (.cells #[.string sn, .int .i64 s.at_, .int .i64 s.side, .int .i64 s.legs, .int .i64 s.ln, .int .i64 s.ld, .int .i64 s.mn, .int .i64 s.md, .int .i64 s.tn, .int .i64 s.td] 34 (0, 0))
        have hB5 : Below w.heap.size w w5 := below_own (HB.out.alloc (Below.size HB.out) _) (Nat.le_refl _) hownA hgrow
        have hb5 := (HX.out.2.alloc (.cells #[.string sn, .int .i64 s.at_, .int .i64 s.side, .int .i64 s.legs, .int .i64 s.ln, .int .i64 s.ld, .int .i64 s.mn, .int .i64 s.md, .int .i64 s.tn, .int .i64 s.td] 34 (0, 0))).grown hgrow (blk_not_row (HX.out.2.alloc _) hownA (by decide))
        clear c0 c1 c2 c3 c4 c5 c6 c7 c8 c9 hstep hb1 hgrow hownA
        go_wp2_with fail
        go_roundw
        case rel => exact ⟨i + 1, bits / 2, D ++ [i], by go_num, by omega, (by first | rfl | (congr 1; omega)), by omega, HD2, by rw [HSC.out, sucsC_snoc, List.length_append]; exact own5, hb5, hB5⟩
        case measure => simp [RowKit.intOf]; omega
      · have hr2 : (bits : Int).tmod 2 = 0 := by rw [hr1]; omega
        have HD2 : Hid (D ++ chF (l.length - (i + 1)) (bits / 2) (i + 1) = idx ∧ D.length ≤ i + 1) := Lib.hid ⟨by have := HD.out.1; rw [hstep, if_neg hb1] at this; rw [← this]; simp, by have := HD.out.2; omega⟩
        clear c0 c1 c2 c3 c4 c5 c6 c7 c8 c9 hstep hb1
        go_wp2_with fail
        go_roundw
        case rel => exact ⟨i + 1, bits / 2, D, by go_num, by omega, (by first | rfl | (congr 1; omega)), by omega, HD2, HX.out.1, HX.out.2, HB.out⟩
        case measure => simp [RowKit.intOf]; omega
    · obtain rfl : i = l.length := by omega
      have hDi : D = idx := by have := HD.out.1; rw [Nat.sub_self] at this; simpa [chF] using this
      subst hDi
      have o1 := HX.out.1
      have hDl : D.length = (pickS l D).length := (pickS_length l D).symm
      obtain ⟨A5, c5, hv5, hR5⟩ := Row.own o1
      subst hv5
      have hcap := own_caps o1
      have HSW : Hid ((∀ p ∈ pickS l D, p.2.wf) ∧ ∀ p ∈ pickS l D, p.1.size ≤ 1000000000000) := Lib.hid ⟨fun p hp => HW.out.1 p (pickS_mem HLT.out hp), fun p hp => HW.out.2 p (pickS_mem HLT.out hp)⟩
      have HP2 : Hid (∀ i, i < j.fs.length → (pickP (P i) D).map Subtype.val = partsV j i (pickS l D) ∧ (pickP (P i) D).length = (pickS l D).length) := Lib.hid fun i hi => ⟨pickP_map HLT.out (HP.out i hi).1, by rw [pickP_length (fun k hk => by rw [(HP.out i hi).2]; exact HLT.out k hk), ← hDl]⟩
      have HCO : Hid (∀ i r, i < j.fs.length → GapOf (pickP (P i) D) (pickS l D).length (r, false) → Cov (P i) D) := Lib.hid fun i r hi hg => by
        refine pick_cov fun n m hp => ?_
        rw [← (HP2.out i hi).2] at hg
        exact gap_none (fun p hp => by
          obtain ⟨k, _, e⟩ := List.mem_filterMap.1 hp
          exact (HG.out i hi).2.1 p (List.mem_of_getElem? e)) hg hp
      have hiN : D.length ≤ l.length := hil
      rw [hDl] at hR5 hcap ⊢
      have hsn : (pickS l D).length ≤ 5 := by omega
      have HDL := Lib.hid hDl
      obtain ⟨sl, hsl⟩ : ∃ sl, pickS l D = sl := ⟨_, rfl⟩
      rw [hsl] at hR5 hcap HSW HP2 HCO hsn HDL HS1 ⊢
      have HRS : Hid (∀ W, Gr wr W → SuOk sl A5 c5 wr.heap.size W) := Lib.hid fun W h => ⟨HSW.out.2, HSW.out.1, hcap.2.1, hcap.1, hR5.below h (Nat.le_refl _), Below.size h⟩
      have HC5 := Lib.hid hcap.2.2
      clear o1 hDl hcap hR5 hsl
      go_wp2_with fail
      refine (copyJoint_any j A c B _ (HJ.out _ HB.out) HA.out (by omega)).mono ?_
      rintro e w6 ⟨v, rfl, own6, hB6⟩
      obtain ⟨A6, c6, rfl, hj6, hA6⟩ := copied (HJ.out _ HB.out) own6
      clear own6
      clear t0 t1 t2 t3 t4 lb
      go_wp2_with fail
      refine (copySetups_any sl A5 c5 wr.heap.size _ (HRS.out _ hB6) HC5.out (by omega)).mono ?_
      rintro e w7 ⟨v, rfl, own7, hB7⟩
      obtain ⟨A7, c7, rfl, hs7⟩ := copiedS (HRS.out _ hB6) own7
      have hj7 := (hj6.below hB7 hj6.base).more (Nat.le_trans hj6.base (Below.size hB7)) (Nat.le_refl _)
      have hG7 : Gr wr w7 := Gr.trans hB6 hB7
      clear own7 hj6
      go_wp2_with fail
      refine (checkPlan_ok j sl (fun i => pickP (P i) D) A6 c6 _ A7 c7 _ hj7 hs7 (HE.out _ (HB.out.trans (Below.mono hG7 (Below.size HB.out)))) H0.out HS1.out HP2.out).mono ?_
      rintro e w8 ⟨hcp, hB8⟩
      obtain ⟨gi, ra, rb, rc, rd, er, rfl, hcr⟩ := hcp.form
      have hG8 := Gr.trans hG7 hB8
      have hal : Gr w8 (w8.alloc (.cells #[.int .i64 ra, .int .i64 rb, .int .i64 rc, .int .i64 rd] 37)) := (Below.refl _ _).alloc (Nat.le_refl _) _
      have hG9 := Gr.trans hG8 hal
      have HB9 := Lib.hid (HB.out.trans (Below.mono hG9 (Below.size HB.out)))
      have HX9 := Lib.hid (HX.out.2.gr hG9)
      have HCR := Lib.hid hcr
      clear hcp hG8 hal hG9 hj7 hs7 hB8 hB7 hB6 hG7 hA6 hcr
      rcases (show er = 14 ∨ er = 0 from by rcases HCR.out with ⟨_, _, _, h, _⟩ | ⟨h, _⟩; exact .inl h; exact .inr h) with rfl | rfl
      · go_wp2_with fail
        go_ret
        exact ⟨rfl, HB9.out⟩
      · have HCV : Hid (∀ i, i < j.fs.length → Cov (P i) D) := Lib.hid fun i hi => by
          rcases HCR.out with ⟨_, _, _, h, _⟩ | ⟨_, h⟩
          · cases h
          · obtain ⟨r, hr⟩ := h i hi
            exact HCO.out i r hi hr
        clear HCR HCO HP2 HSW HRS HC5 HX
        go_upto_region 16 with fail
        refine fpReg16 j l P A c B A' c' _ (HJ.out _ HB9.out) (HS.out _ HB9.out) (HE.out _ HB9.out) HA.out HA'.out H0.out H1.out HP.out HG _ HX9.out (Lib.hid ⟨HSB.out, HCV.out⟩) hiN _ ?_
        intro p60 p61 p62 p63 p64 p65 p66 p67 p68 p69 Ar cr ns w10 hns hncv hB10
        have HB10 := Lib.hid (HB9.out.trans (Below.mono hB10 (Below.size HB9.out)))
        have hx10 := HX9.out.gr hB10
        have HNC := Lib.hid hncv
        have hns2 : ns.length ≤ sl.length := by have := HDL.out; omega
        have hnI : (ns.length : Int) ≤ (sl.length : Int) := by omega
        have hnd : decide (sl.length < ns.length) = false := decide_eq_false (by omega)
        clear hB10 HX9 HB9 hncv hns
        go_wp2_with fail
        clear hnd hnI
        go_loopw [13] (fun s13 wr => ∃ i : Nat, i ≤ j.fs.length ∧ s13 = .int .i64 i ∧ Blk wr w.heap.size 27 #[.string j.nm, .int .i64 j.thick, .int .i64 j.zone, .slice A j.fs.length c, .slice A' l.length c'] ∧ Below w.heap.size w wr) (fun s13 _ => j.fs.length - (RowKit.intOf s13).toNat)
        case atStart => exact ⟨0, Nat.zero_le _, rfl, hx10, HB10.out⟩
        case round =>
          clear hx10 HB10
          obtain ⟨i, hi, rfl, bx, hB⟩ := hrel
          have HBI := Lib.hid hB
          have HXI := Lib.hid bx
          obtain ⟨t0, t1, t2, t3, t4⟩ := pl_cells bx
          have lb := bx.lt
          clear bx hB
          by_cases hlt : i < j.fs.length
          · have hic : (i : Int) < (j.fs.length : Int) := by omega
            go_upto_region 22 with fail
            refine fpReg22 j l P A c B A' c' _ (HJ.out _ HBI.out) (HS.out _ HBI.out) (HE.out _ HBI.out) HA.out HA'.out H0.out H1.out HP.out HG _ HXI.out hlt (Lib.hid (cov_range (HCV.out i hlt))) _ ?_
            intro p87 p88 p89 p90 p91 p92 p93 p94 p95 p96 p97 p98 v9 A9 c9 L w11 hF hR9 hA9 hB11
            have HB11 := Lib.hid (HBI.out.trans (Below.mono hB11 (Below.size HBI.out)))
            have hx11 := HXI.out.gr hB11
            have hLm : L.length ≤ 12 := by have := hF.len; have := (HP.out i hlt).2; omega
            have hL1 : L.length ≤ sl.length := by
              have := apart_cov hF.apart hF.pts (HCV.out i hlt)
              rw [List.length_map, HDL.out] at this
              exact this
            have hL2 : L.length ≤ ns.length := by
              have := apart_cov hF.apart hF.pts (HNC.out i hlt)
              rw [List.length_map] at this
              exact this
            have HFF := Lib.hid hF
            have HR9 := Lib.hid hR9
            have HA9 := Lib.hid hA9
            have HX11 := Lib.hid hx11
            clear t0 t1 t2 t3 t4 lb hB11 hF hR9 hA9 hx11 HXI
            go_upto_region 23 with fail
            refine fpReg23 j l P A c B A' c' _ (HJ.out _ HB11.out) (HS.out _ HB11.out) (HE.out _ HB11.out) HA.out HA'.out H0.out H1.out HP.out HG _ HX11.out hlt HFF HR9 HA9 hLm _ ?_
            intro r99 r100 r101 r102 r103 r104 r105 r106 r107 r108 r109 r110 r111 r112 w12 _ hB12
            have HB12 := Lib.hid (HB11.out.trans (Below.mono hB12 (Below.size HB11.out)))
            have HX12 := Lib.hid (HX11.out.gr hB12)
            have e1 : decide (sl.length < L.length) = false := decide_eq_false (by omega)
            have e2 : decide (ns.length < L.length) = false := decide_eq_false (by omega)
            clear hB12 HX11 HFF HR9 HA9
            go_wp2_with fail
            go_roundw
            case rel => exact ⟨i + 1, by omega, by go_num, HX12.out, HB12.out⟩
            case measure => simp [RowKit.intOf]; omega
          · obtain rfl : i = j.fs.length := by omega
            go_wp2_with fail
            go_ret
            exact ⟨rfl, HBI.out⟩
end Go.Proofs.YtlnkgjkjdllckaaGreatDoor
