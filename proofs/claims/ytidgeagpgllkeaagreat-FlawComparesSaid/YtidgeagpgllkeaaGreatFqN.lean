/- Plain facts of FlawCompares: exchanged lists have as many pairs; the agreement. -/
import Derived.Test.YtidgeagpgllkeaaGreatFqM
namespace Go.Proofs.YtidgeagpgllkeaaGreat
open Go.RowKit

theorem relV_swap (l0 l1 : List Mk) (slack : Int) : ∀ a b : Int, relV l1 l0 slack b a = relV l0 l1 slack a b := fun _ _ => alikeV_comm _ _ _
theorem PairsOk.swap {n m : Nat} {R R' : Int → Int → Bool} {P : List (Int × Int)} (hR : ∀ a b, R' b a = R a b) (h : PairsOk n m R P) : PairsOk m n R' (P.map fun p => (p.2, p.1)) := by
  refine ⟨fun p hp => ?_, ?_⟩
  · obtain ⟨q, hq, rfl⟩ := List.mem_map.1 hp
    obtain ⟨a, b, c⟩ := h.one q hq
    exact ⟨b, a, by show R' q.2 q.1 = true; rw [hR]; exact c⟩
  · rw [List.pairwise_map]
    exact h.apart.imp fun hh => ⟨hh.2, hh.1⟩
theorem CovOk.swap {n m : Nat} {R R' : Int → Int → Bool} {F S : List Int} (hR : ∀ a b, R' b a = R a b) (h : CovOk n m R F S) : CovOk m n R' S F :=
  ⟨h.s, h.f, fun i k hi hin hk hkm hr => (h.all k i hk hkm hi hin (by rw [← hR]; exact hr)).symm⟩
/-- Right pairs, and a right cover with as many members. -/
structure CmpOk (n m : Nat) (R : Int → Int → Bool) (P : List (Int × Int)) (F S : List Int) : Prop where
  pairs : PairsOk n m R P
  cover : CovOk n m R F S
  same : F.length + S.length = P.length
  asc : P.Pairwise fun p q => p.1 < q.1
theorem CmpOk.swapped {n m : Nat} {R R' : Int → Int → Bool} {P Q : List (Int × Int)} {F S F' S' : List Int} (hR : ∀ a b, R' b a = R a b) (h : CmpOk n m R P F S) (k : CmpOk m n R' Q F' S') : Q.length = P.length := by
  have h1 := weak_dual (h.pairs.swap hR) k.cover
  have h2 := weak_dual k.pairs (h.cover.swap hR)
  have h3 := h.same
  have h4 := k.same
  rw [List.length_map] at h1
  omega
/-- The pairs that are found. -/
def PV (l0 l1 : List Mk) (slack : Int) : List (Int × Int) := pairsV l0.length (kuhn (relV l0 l1 slack) l1.length l0.length).2.1
theorem PV_len (l0 l1 : List Mk) (slack : Int) : (PV l0 l1 slack).length = (kuhn (relV l0 l1 slack) l1.length l0.length).2.2 := by unfold PV; rw [pairsV_len, kuhn_count]
theorem PV_le0 (l0 l1 : List Mk) (slack : Int) : (PV l0 l1 slack).length ≤ l0.length := pairsV_le _ _
theorem PV_ok (l0 l1 : List Mk) (slack : Int) : PairsOk l0.length l1.length (relV l0 l1 slack) (PV l0 l1 slack) := pairsV_ok (kuhn_ki _ _ _).mt
theorem PV_le1 (l0 l1 : List Mk) (slack : Int) : (PV l0 l1 slack).length ≤ l1.length := by
  have h : CovOk l0.length l1.length (relV l0 l1 slack) [] (numsV l1.length (fun _ => true)) := ⟨rfl, numsV_e, fun i k _ _ hk hkm _ => .inr (mem_numsV.2 ⟨k.toNat, by omega, rfl, by omega⟩)⟩
  have h1 := weak_dual (PV_ok l0 l1 slack) h
  have h2 := numsV_le l1.length (fun _ => true)
  simp only [List.length_nil] at h1
  omega
theorem PV_cmp {l0 l1 : List Mk} {slack : Int} {x0 x1 : Nat → Bool} (h : Rch (relV l0 l1 slack) l0.length l1.length (kuhn (relV l0 l1 slack) l1.length l0.length).1 (kuhn (relV l0 l1 slack) l1.length l0.length).2.1 x0 x1) :
    CmpOk l0.length l1.length (relV l0 l1 slack) (PV l0 l1 slack) (numsV l0.length (fun a => !x0 a)) (numsV l1.length x1) := by
  have K := kuhn_ki (relV l0 l1 slack) l1.length l0.length
  obtain ⟨a, b⟩ := koenig K.mt h K.small
  exact ⟨PV_ok _ _ _, a, b, pairsV_asc _ _⟩
/-- The agreement: a fraction in lowest terms. -/
def frV (a b : Nat) : Value := .agg #[.int .i64 ((a / Nat.gcd a b : Nat) : Int), .int .i64 ((b / Nat.gcd a b : Nat) : Int)]
def agE (l0 l1 : List Mk) : Int := if l0.length + l1.length = 0 then 11 else 0
def agV (l0 l1 : List Mk) (slack : Int) : Value := if l0.length + l1.length = 0 then .agg #[.int .i64 0, .int .i64 0] else frV (PV l0 l1 slack).length (l0.length + l1.length - (PV l0 l1 slack).length)
end Go.Proofs.YtidgeagpgllkeaaGreat
