/- Contract: the reference's two ascending lists in one. Contracts: the reference's number of pairs (Most), its fraction in lowest terms (Lowest), its agreement. -/
import Derived.Test.YtidgeagpgllkeaaGreatZdFkA
import Derived.Test.YtidgeagpgllkeaaGreatZdFgC
import Derived.Test.YtidgeagpgllkeaaGreatZdFqA
import Derived.Test.YtidgeagpgllkeaaGreatZdFnX
import Derived.Test.YtidgeagpgllkeaaGreatZdFfB
import Derived.Test.YtidgeagpgllkeaaGreatZdFcG
import Derived.Test.YtidgeagpgllkeaaGreatZdFeD
import Derived.Test.YtidgeagpgllkeaaGreatZdFiB
namespace Go.Proofs.YtidgeagpgllkeaaGreat
open Go.RowKit

def tlA (g o c : Nat) : Option Addr := if c = 1 then some ⟨g, o, none⟩ else some ⟨g, o + 1, none⟩
theorem Row.tail {w : World} {B n c g o : Nat} {xs : List Value} (h : Row w B 1 (some ⟨g, o, none⟩) n xs) (hc : n ≤ c) : Row w B 1 (tlA g o c) (n - 1) (xs.drop 1) := by
  refine ⟨by rw [List.length_drop, h.1]; omega, fun hn => ?_⟩
  obtain ⟨g', o', e, hg, hx⟩ := h.2 (by omega)
  injection e with e; injection e with e1 e2 e3
  subst e1 e2
  refine ⟨g, o + 1, ?_, hg, fun j u hj => ?_⟩
  · unfold tlA; rw [if_neg (by omega)]
  · rw [List.getElem?_drop] at hj
    have := hx _ u hj
    rwa [show o + 1 + j = o + (1 + j) by omega]

end Go.Proofs.YtidgeagpgllkeaaGreat

namespace Go.Proofs.YtidgeagpgllkeaaGreat
open Go.RowKit

theorem infoBool : (Tryz.prog.info? 4).map (fun i => (i.zero, i.size, i.bytes)) = some (some (.bool false), 1, 1) := by kernel_rfl
theorem made_bools (n : Nat) : (madeCells (Value.bool false).cells (n * 1)).toList = boolsC (List.replicate n false) := by
  rw [Nat.mul_one]
  show (madeCells #[Value.bool false] n).toList = _
  rw [toList_madeCells_one]
  simp [boolsC]
theorem SeenR.start (m : Nat) : SeenR m [] (List.replicate m false) := by
  refine ⟨by simp, fun k x h => ?_⟩
  rw [List.getElem?_replicate] at h
  split at h
  · simpa using h.symm
  · cases h
theorem ofL_none (m : Nat) : ofL (List.replicate m (-1)) = fun _ => -1 := by
  funext k
  unfold ofL
  rw [List.getElem?_replicate]
  split <;> rfl
/-- What a search changes. -/
theorem AugP.kuhn {R : Int → Int → Bool} {m n i : Nat} {F F' : List Int} {Bs' : List Bool} (hF : ofL F = (kuhn R m i).1) (h : AugP R m n F (aug R m (ofL F) (m + 1) i []) F' Bs') :
    ofL F' = (Proofs.YtidgeagpgllkeaaGreat.kuhn R m (i + 1)).1 ∧ (∀ (k : Nat) (x : Int), F'[k]? = some x → x < (n : Int)) ∧ (Proofs.YtidgeagpgllkeaaGreat.kuhn R m (i + 1)).2.2 = (kuhn R m i).2.2 + (if (aug R m (ofL F) (m + 1) i []).1.isSome then 1 else 0) := by
  obtain ⟨h1, h2⟩ := h
  refine ⟨?_, h1, ?_⟩
  · conv => rhs; unfold Proofs.YtidgeagpgllkeaaGreat.kuhn
    rw [← hF]
    revert h2
    generalize aug R m (ofL F) (m + 1) i [] = X
    intro h2
    obtain ⟨r, s'⟩ := X
    cases r with
    | some p => exact h2
    | none => obtain ⟨rfl, _⟩ := h2; exact hF
  · conv => lhs; unfold Proofs.YtidgeagpgllkeaaGreat.kuhn
    rw [← hF]
    generalize aug R m (ofL F) (m + 1) i [] = X
    obtain ⟨r, s'⟩ := X
    cases r <;> rfl

set_option maxRecDepth 100000 in
set_option maxHeartbeats 8000000 in
theorem refMost_any (l0 l1 : List Mk) (A0 A1 : Option Addr) (c0 c1 B : Nat) (slack : Int) (w : World) (h0 : Row w B 6 A0 l0.length (mksC l0)) (h1 : Row w B 6 A1 l1.length (mksC l1)) (hB : B ≤ w.heap.size) (HS0 : Hid (∀ m ∈ l0, MkS m)) (HS1 : Hid (∀ m ∈ l1, MkS m)) (hn0 : l0.length ≤ 1000) (hn1 : l1.length ≤ 1000) :
    Calls Tryz.prog 140 #[.slice A0 l0.length c0, .slice A1 l1.length c1, .int .i64 slack] w fun e w' => e = .returned (.int .i64 ((kuhn (relV l0 l1 slack) l1.length l0.length).2.2 : Int)) ∧ Below w.heap.size w w' := by
  obtain ⟨i0, hi, hz0, hz1, hz2⟩ := info_parts infoInt
  obtain ⟨i1, bi, bz0, bz1, bz2⟩ := info_parts infoBool
  go_enter Tryz.func140, Tryz.ntmps140
  go_wp2_with (at_make; refine wpList_make_full _ rfl _ _ 37 rfl w.heap.size 3 i0 (.int .i64 0) 1 Tryz.underlying37 hi hz0 hz1 .i64 .i64 _ _ l1.length rfl rfl rfl rfl (by rw [hz2]; omega) (by unfold maxLen; omega) (Nat.le_refl _) ?_; intro w2 own2 hgrow)
  rw [made_ints] at own2
  have M0 : LbM w w.heap.size l1.length (List.replicate l1.length 0) w2 := ⟨own2, (Below.refl _ _).grown hgrow (Nat.le_refl _) (fun q e => by cases e)⟩
  clear own2 hgrow hi hz0 hz1 hz2
  obtain ⟨p, hp⟩ : ∃ p, w.heap.size = p := ⟨_, rfl⟩
  have HP := Lib.hid hp
  rw [hp] at M0 ⊢
  clear hp
  go_loopw [8] (fun s8 wr => ∃ (k : Nat) (F : List Int), k ≤ l1.length ∧ s8 = .int .i64 k ∧ Hid (∀ j : Nat, j < k → F[j]? = some (-1 : Int)) ∧ LbM w p l1.length F wr) (fun s8 _ => l1.length - (intOf s8).toNat)
  case atStart => exact ⟨0, _, Nat.zero_le _, by go_num, Lib.hid (fun j hj => absurd hj (by omega)), M0⟩
  case round =>
    clear M0
    obtain ⟨k, F, hk, rfl, HF, M⟩ := hrel
    have hlen := M.len
    by_cases hlt : k < l1.length
    · have i1 : ((k : Int) < (l1.length : Int)) := by omega
      have q0 := M.cell (List.getElem?_eq_getElem (show k < F.length by omega))
      generalize F[k]'(by omega) = old at q0
      have qf := M.frozen k
      have ql := M.lt
      have M1 := M.put k (-1 : Int)
      have HX : Hid (∀ j : Nat, j < k + 1 → (F.set k (-1 : Int))[j]? = some (-1 : Int)) := Lib.hid (fun j hj => by
        by_cases e : k = j
        · subst e; rw [List.getElem?_set_self (by omega)]
        · rw [List.getElem?_set_ne e]; exact HF.out j (by omega))
      clear M hlen
      go_wp2
      exact ⟨⟨k + 1, _, by omega, by go_num, HX, M1⟩, by simp [intOf]; omega⟩
    · obtain rfl : k = l1.length := by omega
      have hF : F = List.replicate l1.length (-1) := by
        apply List.ext_getElem?
        intro j
        by_cases hj : j < l1.length
        · rw [HF.out j hj, List.getElem?_replicate, if_pos hj]
        · rw [List.getElem?_eq_none (by omega), List.getElem?_eq_none (by simp; omega)]
      subst hF
      clear hlen HF
      go_wp2
      go_loopw [9, 10] (fun s9 s10 wr => ∃ (i : Nat) (F : List Int), i ≤ l0.length ∧ s10 = .int .i64 i ∧ s9 = .int .i64 ((kuhn (relV l0 l1 slack) l1.length i).2.2 : Int) ∧ Hid (ofL F = (kuhn (relV l0 l1 slack) l1.length i).1 ∧ ∀ (k : Nat) (x : Int), F[k]? = some x → x < (l0.length : Int)) ∧ Hid ((kuhn (relV l0 l1 slack) l1.length i).2.2 ≤ i) ∧ LbM w p l1.length F wr) (fun _ s10 _ => l0.length - (intOf s10).toNat)
      case atStart => exact ⟨0, _, Nat.zero_le _, by go_num, by go_num, Lib.hid ⟨ofL_none _, fun k x h => by
        rw [List.getElem?_replicate] at h
        split at h
        · obtain rfl : -1 = x := by simpa using h
          omega
        · cases h⟩, Lib.hid (Nat.le_refl _), M⟩
      case round =>
        clear M
        obtain ⟨i, F, hi, rfl, rfl, HF, HC, M⟩ := hrel
        by_cases hlt : i < l0.length
        · have i1' : ((i : Int) < (l0.length : Int)) := by omega
          have hwz := Below.size M.below
          have hcc := HC.out
          obtain ⟨cn, hcn⟩ : ∃ cn, (kuhn (relV l0 l1 slack) l1.length i).2.2 = cn := ⟨_, rfl⟩
          rw [hcn] at hcc
          have HCN := Lib.hid hcn
          rw [hcn]
          clear hcn
          go_wp2_with (at_make; refine wpList_make_full _ rfl _ _ 222 rfl w.heap.size 4 i1 (.bool false) 1 Tryz.underlying222 bi bz0 bz1 .i64 .i64 _ _ l1.length rfl rfl rfl rfl (by rw [bz2]; omega) (by unfold maxLen; omega) hwz ?_; intro w3 own3 hgrow)
          rw [made_bools] at own3
          have MP : PdM w p wr.heap.size l1.length F (List.replicate l1.length false) w3 := ⟨⟨M.own.kept hgrow (.inr (by simp [Value.ownBlock])), M.below.grown hgrow hwz (fun q e => by cases e)⟩, own3⟩
          clear own3 hgrow M
          go_wp2_with fail
          refine (paired_any w p _ l0 l1 A0 A1 c0 c1 B slack h0 h1 hB HS0 HS1 hn0 hn1 (l1.length + 1) i [] F _ w3 hlt (by rw [rest_nil]; omega) (SeenR.start _) HF.out.2 MP).mono ?_
          rintro e w4 ⟨rfl, F4, B4, M4, hA4⟩
          obtain ⟨g1, g2, g3⟩ := hA4.kuhn HF.out.1
          have HG := Lib.hid (And.intro g1 g2)
          rw [HCN.out] at g3
          cases hb : (aug (relV l0 l1 slack) l1.length (ofL F) (l1.length + 1) i []).1.isSome
          case true =>
            rw [hb, if_pos rfl] at g3
            have HC2 : Hid ((kuhn (relV l0 l1 slack) l1.length (i + 1)).2.2 = cn + 1) := Lib.hid g3
            clear g1 g2 g3 hA4 hb MP HF HC
            go_wp2
            exact ⟨⟨i + 1, F4, by omega, by go_num, by rw [HC2.out]; go_num, HG, Lib.hid (by rw [HC2.out]; omega), M4.o⟩, by simp [intOf]; omega⟩
          case false =>
            rw [hb, if_neg (by simp)] at g3
            have HC2 : Hid ((kuhn (relV l0 l1 slack) l1.length (i + 1)).2.2 = cn) := Lib.hid g3
            clear g1 g2 g3 hA4 hb MP HF HC
            go_wp2
            exact ⟨⟨i + 1, F4, by omega, by go_num, by rw [HC2.out], HG, Lib.hid (by rw [HC2.out]; omega), M4.o⟩, by simp [intOf]; omega⟩
        · obtain rfl : i = l0.length := by omega
          go_wp2
          go_ret
          exact ⟨rfl, M.below⟩

end Go.Proofs.YtidgeagpgllkeaaGreat
