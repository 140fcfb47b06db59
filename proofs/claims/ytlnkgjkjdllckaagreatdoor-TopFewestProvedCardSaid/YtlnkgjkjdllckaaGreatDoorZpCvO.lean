/- Contract: a comparison makes new blocks, and does nothing else. -/
import Derived.Sort.Grow
import Derived.Test.YtlnkgjkjdllckaaGreatDoorZpCvM
namespace Go.Proofs.YtlnkgjkjdllckaaGreatDoor
open Go.RowKit

set_option maxHeartbeats 400000 in
theorem compare_grow (n d m k : Int) (hn : 0 ≤ n ∧ n ≤ 9223372036854775807) (hd : 0 ≤ d ∧ d ≤ 9223372036854775807) (hm : 0 ≤ m ∧ m ≤ 9223372036854775807) (hk : 0 ≤ k ∧ k ≤ 9223372036854775807) (w : World) :
    Calls Tryz.prog 32 #[.agg #[.int .i64 n, .int .i64 d], .agg #[.int .i64 m, .int .i64 k]] w fun e w' => e = .returned (.int .i64 (cmpI (n * k) (m * d))) ∧ ∃ q os, w' = Sort.grow (w.drewN q) os := by
  go_enter Tryz.func32, Tryz.ntmps32
  go_wp2_with fail
  refine (mulU_any n k hn hk _).mono ?_
  rintro e w1 ⟨h, l, rfl, E1, b1, b2, rfl⟩
  go_wp2_with fail
  refine (mulU_any m d hm hd _).mono ?_
  rintro e w1 ⟨h', l', rfl, E2, b3, b4, rfl⟩
  go_wp2_with (go_at_call 55; refine (cmpU_any _ _ _).mono ?_; rintro e w1 ⟨rfl, rfl⟩)
  refine (orTwo_any (cmpI h h') (cmpI l l') _ _ ?c0 ?c1).mono ?_
  case c0 => go_simp
  case c1 => go_simp
  rintro e w1 ⟨rfl, rfl⟩
  go_wp2
  go_ret
  refine ⟨by rw [← cmp_two E1.out E2.out b2 b4]; rfl, 0, _, by simp only [Sort.alloc_eq_grow, Sort.grow_grow]; rfl⟩

set_option maxHeartbeats 400000 in
theorem gapCmp_any (p q : PV) (hp : p.ok) (hq : q.ok) (w : World) :
    Calls Tryz.prog 48 #[.agg (ptP p), .agg (ptP q)] w fun e w' => e = .returned (.int .i64 (cmpI (p.a * q.b) (q.a * p.b))) ∧ ∃ n os, w' = Sort.grow (w.drewN n) os := by
  obtain ⟨a, b, c, d, none, up⟩ := p
  obtain ⟨a', b', c', d', none', up'⟩ := q
  obtain ⟨h1, h2, _, _⟩ := hp
  obtain ⟨h3, h4, _, _⟩ := hq
  simp only at h1 h2 h3 h4
  unfold ptP ptC
  go_enter Tryz.func48, Tryz.ntmps48
  go_wp2_with fail
  refine (compare_grow a b a' b' h1 h2 h3 h4 _).mono ?_
  rintro e w1 ⟨rfl, n, os, hw⟩
  have HW := Lib.hid hw; clear hw
  go_wp2
  go_ret
  refine ⟨rfl, n, (#[.cells #[.int .i64 a, .int .i64 b, .int .i64 c, .int .i64 d, .bool none, .bool up] 89 (0, 0)] ++ #[.cells #[.int .i64 a', .int .i64 b', .int .i64 c', .int .i64 d', .bool none', .bool up'] 89 (0, 0)]) ++ os, ?_⟩
  rw [HW.out, Sort.alloc_eq_grow, Sort.alloc_eq_grow, Sort.grow_grow, ← Sort.grow_grow (w.drewN n)]
  rfl
end Go.Proofs.YtlnkgjkjdllckaaGreatDoor
