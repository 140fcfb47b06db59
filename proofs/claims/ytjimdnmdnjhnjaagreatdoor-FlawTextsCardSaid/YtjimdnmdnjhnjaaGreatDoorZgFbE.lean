/- Plain law: the true size is enclosed. No program in sight. Plain law: the areas of the first example's scan. Contracts: the first example's scan; the examples of chapter 8 that the top statements begin with. -/
import Derived.Test.YtjimdnmdnjhnjaaGreatDoorZgFaP
import Derived.Test.YtjimdnmdnjhnjaaGreatDoorZgFaZf
import Derived.Test.YtjimdnmdnjhnjaaGreatDoorZgFaD
namespace Go.Proofs.YtjimdnmdnjhnjaaGreatDoor

end Go.Proofs.YtjimdnmdnjhnjaaGreatDoor

namespace Go.Proofs.YtjimdnmdnjhnjaaGreatDoor
open Go.RowKit

/-- The first example's scan. -/
def sixS (A : Option Addr) (cap : Nat) : Sc := ⟨0, 0, 2, 3, [5, 0, 7, 0, 6, 0], A, cap⟩
def sixL : List (Int × Int) := [(0, 0), (0, 2), (1, 1)]
section
variable {A : Option Addr} {cap : Nat}
theorem six_bd {x y : Int} (h : 0 ≤ atV [sixS A cap] x y) : (0 ≤ x ∧ x ≤ 1) ∧ 0 ≤ y ∧ y ≤ 2 := by
  cases hb : inB (sixS A cap) x y
  · exfalso
    have : atV [sixS A cap] x y = -1 := by
      show atS (-1) _ x y = -1
      unfold atS; rw [hb]; rfl
    omega
  · simp [inB, wi, sixS] at hb; omega
theorem six_mem {x y : Int} (h : abv (atV [sixS A cap]) x y 5 = true) : (x, y) ∈ sixL := by
  obtain ⟨hr, hc⟩ := six_bd ((abv_iff _ _ _ _).1 h).1
  have hr : x = 0 ∨ x = 1 := by omega
  have hc : y = 0 ∨ y = 1 ∨ y = 2 := by omega
  rcases hr with rfl | rfl <;> rcases hc with rfl | rfl | rfl
  · decide
  · have e : abv (atV [sixS A cap]) 0 1 5 = false := by rfl
    rw [e] at h; cases h
  · decide
  · have e : abv (atV [sixS A cap]) 1 0 5 = false := by rfl
    rw [e] at h; cases h
  · decide
  · have e : abv (atV [sixS A cap]) 1 2 5 = false := by rfl
    rw [e] at h; cases h
theorem six_abv : ∀ x ∈ sixL, abv (atV [sixS A cap]) x.1 x.2 5 = true := by
  intro x hx
  simp only [sixL, List.mem_cons, List.not_mem_nil, or_false] at hx
  rcases hx with rfl | rfl | rfl <;> rfl
theorem six_to : ∀ x ∈ sixL, Conn (atV [sixS A cap]) 5 true x (1, 1) := by
  intro x hx
  simp only [sixL, List.mem_cons, List.not_mem_nil, or_false] at hx
  rcases hx with rfl | rfl | rfl
  · exact .step .refl (by decide) (six_abv _ (by decide))
  · exact .step .refl (by decide) (six_abv _ (by decide))
  · exact .refl
theorem six_conn {x y : Int × Int} (hx : x ∈ sixL) (hy : y ∈ sixL) : Conn (atV [sixS A cap]) 5 true x y := by
  have h := six_to (A := A) (cap := cap) x hx
  simp only [sixL, List.mem_cons, List.not_mem_nil, or_false] at hy
  rcases hy with rfl | rfl | rfl
  · exact .step h (by decide) (six_abv _ (by decide))
  · exact .step h (by decide) (six_abv _ (by decide))
  · exact h
end

theorem peak_foldl (g : Int → Int → Int) : ∀ (l : List (Int × Int)) (p : Int × Int),
    (l.foldl (fun p x => if g p.1 p.2 < g x.1 x.2 then x else p) p ∈ p :: l) ∧ g p.1 p.2 ≤ g (l.foldl (fun p x => if g p.1 p.2 < g x.1 x.2 then x else p) p).1 (l.foldl (fun p x => if g p.1 p.2 < g x.1 x.2 then x else p) p).2 ∧
      ∀ x ∈ l, g x.1 x.2 ≤ g (l.foldl (fun p x => if g p.1 p.2 < g x.1 x.2 then x else p) p).1 (l.foldl (fun p x => if g p.1 p.2 < g x.1 x.2 then x else p) p).2
  | [], p => by simp
  | y :: l, p => by
    obtain ⟨h1, h2, h3⟩ := peak_foldl g l (if g p.1 p.2 < g y.1 y.2 then y else p)
    simp only [List.foldl_cons]
    generalize l.foldl (fun p x => if g p.1 p.2 < g x.1 x.2 then x else p) (if g p.1 p.2 < g y.1 y.2 then y else p) = r at h1 h2 h3 ⊢
    split at h1 <;> rename_i hc
    · rw [if_pos hc] at h2
      refine ⟨?_, by omega, ?_⟩
      · rcases List.mem_cons.1 h1 with e | e
        · rw [e]; simp
        · exact List.mem_cons_of_mem _ (List.mem_cons_of_mem _ e)
      · intro x hx
        rcases List.mem_cons.1 hx with e | e
        · rw [e]; exact h2
        · exact h3 x e
    · rw [if_neg hc] at h2
      refine ⟨?_, by omega, ?_⟩
      · rcases List.mem_cons.1 h1 with e | e
        · rw [e]; simp
        · exact List.mem_cons_of_mem _ (List.mem_cons_of_mem _ e)
      · intro x hx
        rcases List.mem_cons.1 hx with e | e
        · rw [e]; omega
        · exact h3 x e
/-- The peak of cells: one of them, and none is greater. -/
theorem peak_spec (g : Int → Int → Int) {cs : List (Int × Int)} (h : cs ≠ []) : peakV g cs ∈ cs ∧ ∀ x ∈ cs, g x.1 x.2 ≤ g (peakV g cs).1 (peakV g cs).2 := by
  obtain ⟨h1, h2, h3⟩ := peak_foldl g cs (cs.headD (0, 0))
  have hm : cs.headD (0, 0) ∈ cs := by
    cases cs with
    | nil => exact absurd rfl h
    | cons a l => simp
  refine ⟨?_, h3⟩
  unfold peakV
  rcases List.mem_cons.1 h1 with e | e
  · rw [e]; exact hm
  · exact e

/-- The areas of the first example: one; it has three cells, and its peak is the second one. -/
theorem six_areas {A : Option Addr} {cap : Nat} {P : List (Int × Int)} {Bs : List ((Int × Int) × ArA)} (hP : PlacesOk (atV [sixS A cap]) 5 P) (hS : ArS (atV [sixS A cap]) 5 true P P.length Bs) :
    ∃ q, Bs = [q] ∧ q.2.2.length = 3 ∧ peakV (atV [sixS A cap]) q.2.2 = (0, 2) := by
  have hin : ∀ x ∈ P, x ∈ sixL := fun x hx => six_mem (hP.abv x hx)
  have hall : ∀ x ∈ sixL, x ∈ P := by
    intro x hx
    refine hP.all x.1 x.2 ?_ ?_ (six_abv x hx)
    all_goals
      simp only [sixL, List.mem_cons, List.not_mem_nil, or_false] at hx
      rcases hx with rfl | rfl | rfl <;> exact ⟨by decide, by decide⟩
  have hsub : ∀ q ∈ Bs, q.1 ∈ P := fun q hq => by
    have := hS.sub.subset (List.mem_map_of_mem (f := (·.1)) hq)
    rwa [List.take_length] at this
  match Bs, hS with
  | [], hS =>
    obtain ⟨q, hq, _⟩ := hS.cover (0, 0) (by rw [List.take_length]; exact hall _ (by decide))
    cases hq
  | a :: b :: Bs, hS =>
    exfalso
    have h1 := (List.pairwise_cons.1 hS.apart).1 b (by simp)
    exact h1 (((hS.each a (by simp)).mem _).2 (six_conn (hin _ (hsub a (by simp))) (hin _ (hsub b (by simp)))))
  | [q], hS =>
    have hA := hS.each q (by simp)
    have hq := hin _ (hsub q (by simp))
    have hiff : ∀ x, x ∈ q.2.2 ↔ x ∈ sixL := fun x => by
      rw [hA.mem]
      constructor
      · intro h
        cases h with
        | refl => exact hq
        | step _ _ ha => exact six_mem ha
      · exact fun h => six_conn hq h
    have hperm : q.2.2.Perm sixL := (List.perm_ext_iff_of_nodup hA.nodup (by decide)).2 hiff
    obtain ⟨p1, p2⟩ := peak_spec (atV [sixS A cap]) (cs := q.2.2) (fun e => by have := (hiff (0, 0)).2 (by decide); rw [e] at this; cases this)
    refine ⟨q, rfl, by rw [hperm.length_eq]; rfl, ?_⟩
    have h2 := p2 (0, 2) ((hiff _).2 (by decide))
    have h1 := (hiff _).1 p1
    generalize peakV (atV [sixS A cap]) q.2.2 = p at h1 h2
    have e7 : atV [sixS A cap] 0 2 = 7 := by rfl
    simp only [sixL, List.mem_cons, List.not_mem_nil, or_false] at h1
    rcases h1 with rfl | rfl | rfl
    · have e5 : atV [sixS A cap] 0 0 = 5 := by rfl
      dsimp only at h2; omega
    · rfl
    · have e6 : atV [sixS A cap] 1 1 = 6 := by rfl
      dsimp only at h2; omega
end Go.Proofs.YtjimdnmdnjhnjaaGreatDoor

namespace Go.Proofs.YtjimdnmdnjhnjaaGreatDoor
open Go.RowKit

theorem ScOk.one {w : World} {g h : Nat} {t u : TypeId} {s : Sc} (hd : Blk w g t (intsC s.data).toArray) (hs : Blk w h u (scC s).toArray) (hA : s.dA = some ⟨g, 0, none⟩) (hl : s.data.length ≤ 1000000000) : ScOk [s] (some ⟨h, 0, none⟩) w.heap.size w :=
  ⟨by simp, ⟨rfl, fun _ => ⟨h, 0, rfl, hs.lt, fun j u hj => by
      rw [Nat.zero_add, hs.cell j]
      have e : scsC [s] = scC s := by simp [scsC]
      rw [e] at hj; simpa using hj⟩⟩, fun x hx => by rw [List.mem_singleton] at hx; subst hx; exact hl,
    fun x hx => by
      rw [List.mem_singleton] at hx; subst hx
      exact ⟨by simp [intsC], fun _ => ⟨g, 0, hA, hd.lt, fun j u hj => by rw [Nat.zero_add, hd.cell j]; simpa using hj⟩⟩⟩

set_option maxHeartbeats 400000 in
theorem six_any (w : World) : Calls Tryz.prog 11 #[] w fun e w' =>
    e = .returned (.slice (some ⟨w.heap.size + 1, 0, none⟩) 1 1) ∧ ScOk [sixS (some ⟨w.heap.size, 0, none⟩) 6] (some ⟨w.heap.size + 1, 0, none⟩) w'.heap.size w' ∧ Below w.heap.size w w' := by
  go_enter Tryz.func11, Tryz.ntmps11
  go_wp2
  go_ret
  have h0 := (Blk.new w 3 #[.int .i64 5, .int .i64 0, .int .i64 7, .int .i64 0, .int .i64 6, .int .i64 0]).alloc (.cells #[.int .i64 0, .int .i64 0, .int .i64 2, .int .i64 3, .slice (some ⟨w.heap.size, 0, none⟩) 6 6] 59)
  have h1 := Blk.new (w.alloc (.cells #[.int .i64 5, .int .i64 0, .int .i64 7, .int .i64 0, .int .i64 6, .int .i64 0] 3)) 59 #[.int .i64 0, .int .i64 0, .int .i64 2, .int .i64 3, .slice (some ⟨w.heap.size, 0, none⟩) 6 6]
  simp only [World.size_alloc] at h1
  exact ⟨rfl, ScOk.one (s := sixS (some ⟨w.heap.size, 0, none⟩) 6) h0 h1 rfl (by show (6 : Nat) ≤ 1000000000; decide), (by repeat (first | (with_reducible exact Below.refl _ _) | (with_reducible assumption) | ((with_reducible refine Below.setCell ?_ ?_ _); rotate_left; · (first | exact Nat.le_refl _ | (simp; done) | (simp; omega) | omega)) | ((with_reducible refine Below.alloc ?_ ?_ _); rotate_left; · (first | exact Nat.le_refl _ | (simp; done) | (simp; omega) | omega)) | (with_reducible apply Below.drew) | (with_reducible apply below_drewN') | (refine Below.trans ?_ (Below.mono (by assumption) (by first | exact Nat.le_refl _ | (simp; done) | (simp; omega) | omega))) | exact Below.refl _ _ | assumption))⟩

theorem six_good (A : Option Addr) (cap : Nat) : ∀ s ∈ [sixS A cap], ScGood s := by
  intro s hs
  rw [List.mem_singleton] at hs; subst hs
  exact ⟨⟨(by decide : (-100000 : Int) ≤ 0), (by decide : (0 : Int) ≤ 100000)⟩, ⟨(by decide : (-100000 : Int) ≤ 0), (by decide : (0 : Int) ≤ 100000)⟩, ⟨(by decide : (1 : Int) ≤ 2), (by decide : (2 : Int) ≤ 24)⟩, ⟨(by decide : (1 : Int) ≤ 3), (by decide : (3 : Int) ≤ 24)⟩, rfl, (by decide : (6 : Nat) ≤ 576), fun x hx => by
    simp only [sixS, List.mem_cons, List.not_mem_nil, or_false] at hx
    omega⟩
theorem six_err (A : Option Addr) (cap : Nat) : scanAskE [sixS A cap] 5 = 0 := rfl

/-- The tip of the examples. -/
theorem tip_val : tipV ⟨10000000, 10000000, 1800, 1800, 6000⟩ = ⟨2400, 2400, 0⟩ := by
  have h : isq 5760000 = 2400 := isq_eq (by decide) (by decide) (by decide)
  have hE : tipE ⟨10000000, 10000000, 1800, 1800, 6000⟩ = 0 := rfl
  have hl : tipLo ⟨10000000, 10000000, 1800, 1800, 6000⟩ = 5760000 := rfl
  have hh : tipHi ⟨10000000, 10000000, 1800, 1800, 6000⟩ = 5760000 := rfl
  unfold tipV isqUp
  rw [hE, hl, hh, h]; rfl

/-- What the call of Areas at the first example gives. -/
theorem sixAreas_any (w : World) (A Aa : Option Addr) (cap dcap B : Nat) (h : ScOk [sixS A dcap] Aa B w) (hBw : B ≤ w.heap.size) :
    Calls Tryz.prog 10 #[.slice Aa 1 cap, .agg #[.int .i64 5, .bool true]] w fun e w' => ∃ g v cap', e = .returned (.tuple #[.slice (some ⟨g, 0, none⟩) 1 cap', .int .i64 0]) ∧ w.heap.size ≤ g ∧ g < w'.heap.size ∧
      w'.cell? ⟨g, 0, none⟩ = some v ∧ w'.cell? ⟨g, 1, none⟩ = some (.int .i64 0) ∧ w'.cell? ⟨g, 2, none⟩ = some (.int .i64 2) ∧ w'.cell? ⟨g, 3, none⟩ = some (.int .i64 7) ∧ (∃ A c, v = .slice A 3 c) ∧ Below w.heap.size w w' := by
  refine (areas_ok [sixS A dcap] _ cap B 5 true w h hBw (six_err A dcap) (Lib.hid (six_good A dcap))).mono ?_
  rintro e w' ⟨v, P, Bs, rfl, hP, hS, hrow, hcells, hB⟩
  obtain ⟨q, rfl, hl, hpk⟩ := six_areas hP hS
  have e7 : atV [sixS A dcap] 0 2 = 7 := by rfl
  rw [show cellsA (atV [sixS A dcap]) ([q].map (·.2)) = [q.2.1, .int .i64 0, .int .i64 2, .int .i64 7] by simp only [cellsA, encA, List.map_cons, List.map_nil, List.flatMap_cons, List.flatMap_nil, hpk, e7, List.append_nil]] at hrow
  obtain ⟨g, c, rfl, h1, h2⟩ := hrow.form (by simp)
  have hc := hrow.cells (g := g) rfl
  have hq := hcells q (by simp)
  rw [hl] at hq
  obtain ⟨g2, c2, hv, _, _⟩ := hq.form (by simp)
  exact ⟨g, q.2.1, c, rfl, h1, h2, hc 0 _ rfl, hc 1 _ rfl, hc 2 _ rfl, hc 3 _ rfl, ⟨_, _, hv⟩, hB⟩

end Go.Proofs.YtjimdnmdnjhnjaaGreatDoor
