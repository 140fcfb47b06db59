/- Contract: whether a set-up meets a point. -/
import Derived.Test.YtlnkgjkjdllckaaGreatDoorZpCvI
namespace Go.Proofs.YtlnkgjkjdllckaaGreatDoor
open Go.RowKit

theorem metW_ok {wv wz dx az : Int} {s : Su} (bwv : -60000 ≤ wv ∧ wv ≤ 60000) (bwz : -60000 ≤ wz ∧ wz ≤ 60000) (bdx : -60000 ≤ dx ∧ dx ≤ 60000) (baz : -60000 ≤ az ∧ az ≤ 60000) (h1 : -1 ≤ s.side ∧ s.side ≤ 1)
    (h2 : 0 ≤ s.ln ∧ s.ln ≤ 100) (h3 : 0 ≤ s.ld ∧ s.ld ≤ 100) (h4 : 0 ≤ s.mn ∧ s.mn ≤ 100) (h5 : 0 ≤ s.md ∧ s.md ≤ 100) (h6 : 0 ≤ s.tn ∧ s.tn ≤ 100) (h7 : 0 ≤ s.td ∧ s.td ≤ 100) : (metW wv wz dx az s).ok := by
  by_cases hk : wv * az - wz * dx = 0
  · have : metW wv wz dx az s = ⟨0, 1, 1, 1, true, false⟩ := if_pos hk
    rw [this]
    exact ⟨by simp [NN], by simp [NN], by simp [NN], by simp [NN]⟩
  · rw [metW_no hk]
    have v1 := mul_bd s.side dx 1 60000 (by omega) bdx
    have v2 := mul_bd s.side wv 1 60000 (by omega) bwv
    generalize s.side * dx = X at *
    generalize s.side * wv = Y at *
    have b1 := mul_bd X s.ld 60000 100 (by omega) (by omega)
    have b2 := mul_bd Y s.ld 60000 100 (by omega) (by omega)
    have b3 := mul_bd az s.ln 60000 100 (by omega) (by omega)
    have b4 := mul_bd wz s.ln 60000 100 (by omega) (by omega)
    have c1 := mul_bd X s.md 60000 100 (by omega) (by omega)
    have c2 := mul_bd Y s.md 60000 100 (by omega) (by omega)
    have c3 := mul_bd az s.mn 60000 100 (by omega) (by omega)
    have c4 := mul_bd wz s.mn 60000 100 (by omega) (by omega)
    have d1 := mul_bd wv az 60000 60000 (by omega) (by omega)
    have d2 := mul_bd wz dx 60000 60000 (by omega) (by omega)
    have d3 := mul_bd (max (wv * az - wz * dx) (-(wv * az - wz * dx))) s.tn 7200000000 100 (by omega) (by omega)
    have e1 := mul_bd wv dx 60000 60000 (by omega) (by omega)
    have e2 := mul_bd wz az 60000 60000 (by omega) (by omega)
    have e3 := mul_bd (wv * dx + wz * az) s.td 7200000000 100 (by omega) (by omega)
    have e4 := mul_bd (-(wv * dx + wz * az)) s.td 7200000000 100 (by omega) (by omega)
    have f1 := mul_bd wv wv 60000 60000 (by omega) (by omega)
    have f2 := mul_bd wz wz 60000 60000 (by omega) (by omega)
    have f3 := mul_bd (wv * wv + wz * wz) s.td 7200000000 100 (by omega) (by omega)
    have f4 := mul_bd (-(wv * wv + wz * wz)) s.td 7200000000 100 (by omega) (by omega)
    refine PV.cut_ok (PV.cut_ok (PV.cut_ok (PV.cut_ok ⟨by simp [NN], by simp [NN], by simp [NN], by simp [NN]⟩ ?_ ?_) ?_ ?_) ?_ ?_) ?_ ?_
    all_goals omega
theorem metV_ok {thick : Int} {f : Fc} {s : Su} (L : Lim thick f s) : (metV thick f s).ok := by
  obtain ⟨k1, k2, k3, k4, k5, k6, k7, k8, k9, k10, k11, k12, k13⟩ := L
  unfold metV
  split
  · exact metW_ok (by omega) (by omega) (by omega) (by omega) k7 k8 k9 k10 k11 k12 k13
  · exact metW_ok (by omega) (by omega) (by omega) (by omega) k7 k8 k9 k10 k11 k12 k13

/-- Whether a point is met, or the error. -/
def isMetR (j : Jo) (face : Int) (sn : ByteArray) (s : Su) (n d : Int) : Bool × Int :=
  if askE j face sn s = 0 then (if ptE n d = 0 then ((metV j.thick (faceAt j face) s).has n d, 0) else (false, ptE n d)) else (false, askE j face sn s)

end Go.Proofs.YtlnkgjkjdllckaaGreatDoor
